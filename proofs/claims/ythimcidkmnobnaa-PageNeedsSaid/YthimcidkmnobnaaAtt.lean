/- An attempt to read or to write. -/
import Derived.Test.YthimcidkmnobnaaNew2
namespace Go.Proofs.Ythimcidkmnobnaa
open Go.ChangeShapes Go.WideShapes Go.ChangeAt Go.RowKit

set_option maxHeartbeats 2000000 in
theorem attempt_any (p : Pg) (off : Int) (s : ByteArray) (wr : Bool) (w : World) (hd : p.d.size ≤ maxLen) (hs : s.size ≤ maxLen) :
    Calls Try.prog 32 #[p.val, .int .i64 off, .string s, .bool wr] w (RetW (.int .i64 (readyV p off s.size wr)) w) := by
  cases wr with
  | true =>
    have hch := fun w => write_any p off s w hd hs
    have he := write_e p off s
    generalize readyV p off s.size true = z at *
    generalize writeV p off s = q at *
    obtain ⟨⟨qd, qv, qe⟩, x⟩ := q
    obtain ⟨d, v, e⟩ := p
    simp only [Pg.val] at hch hd he ⊢
    subst he
    have HC := Lib.hid hch; clear hch
    go_enter Try.func32, Try.ntmps32
    go_wp2_with (go_at_call 26; refine (HC.out _).mono ?_; rintro e w' ⟨rfl, hb⟩)
    go_ret
    exact RetW.mk rfl ((((Below.refl _ _).alloc (Nat.le_refl _) _).trans (hb.mono (by simp))).alloc (by have := hb.size; simp at this; omega) _)
  | false =>
    have hch := fun w => read_any p off s.size w hd
    have he := read_e p off s.size
    generalize readyV p off s.size false = z at *
    generalize readV p off s.size = q at *
    obtain ⟨qd, x⟩ := q
    obtain ⟨d, v, e⟩ := p
    simp only [Pg.val] at hch hd he ⊢
    subst he
    have HC := Lib.hid hch; clear hch
    go_enter Try.func32, Try.ntmps32
    go_wp2_with (go_at_call 14; refine (HC.out _).mono ?_; rintro e w' ⟨rfl, hb⟩)
    go_ret
    exact RetW.mk rfl (((Below.refl _ _).alloc (Nat.le_refl _) _).trans (hb.mono (by simp)))

theorem put_gen {C : World → Prop} {w0 w' : World} {t B g : Nat} {a : Option Addr} {len cap : Nat} {p : Pg} (nb : NewB t B w' g) (hP : Hs w' B p) (ht : TP w0 t a len cap w') (hk : Tock t w0 w') (hg : w0.heap.size ≤ g) (d : ByteArray) (v e : Int)
    (h : ∀ W, Hs W g ⟨d, v, e⟩ → Hs W B p → TP w0 t a len cap W → Hid (Tock t w0 W) → C W) : C (((w'.setCell ⟨g, 0, none⟩ (.string d)).setCell ⟨g, 1, none⟩ (.int .i64 v)).setCell ⟨g, 2, none⟩ (.int .i64 e)) :=
  h (put3 w' g d v e) (nb.hs.put d v e) (hP.other nb.nB' d v e) (ht.put3 nb.nt hg d v e) (hk.put hg d v e)
theorem alloc_gen {C : World → Prop} {w0 w' : World} {t B : Nat} {a : Option Addr} {len cap : Nat} {p : Pg} (hP : Hs w' B p) (ht : TP w0 t a len cap w') (hk : Tock t w0 w') (d : ByteArray) (v e : Int)
    (h : ∀ W, Hs W w'.heap.size ⟨d, v, e⟩ → Hs W B p → TP w0 t a len cap W → Hid (Tock t w0 W) → C W) : C (w'.alloc (.cells #[.string d, .int .i64 v, .int .i64 e] 27)) :=
  h _ (Hs.new w' d v e) (hP.alloc _) (ht.alloc _) (hk.alloc _)
end Go.Proofs.Ythimcidkmnobnaa
