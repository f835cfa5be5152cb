/- Adding a state to a history: the program's way. -/
import Derived.Test.YtebdnnfaghhpkaaHi
namespace Go.Proofs.Ytebdnnfaghhpkaa
open Go.ChangeShapes Go.WideShapes Go.ChangeAt Go.RowKit

theorem StrRow.one_new (w : World) (d : ByteArray) (fz : Nat × Nat) : StrRow 0 (some ⟨w.heap.size, 0, none⟩) 1 [d] (w.alloc (.cells #[.string d] 9 fz)) := by
  refine Or.inr ⟨w.heap.size, rfl, Nat.zero_le _, by simp, by simp, by unfold maxLen; omega, fun j hj => ?_⟩
  have : j = 0 := by simpa using hj
  subst this
  rw [World.cell?_alloc_mark]
  rfl
theorem own_mono {w : World} {B C : Nat} {e : TypeId} {size n : Nat} {v : Value} {xs : List Value} (h : w.ownsRow B e size v n xs) (hb : C ≤ B) : w.ownsRow C e size v n xs := by
  refine ⟨h.1, ?_⟩
  rcases h.2 with hn | ⟨g, cap, cur, e1, e2, e3⟩
  · exact Or.inl hn
  · exact Or.inr ⟨g, cap, cur, e1, Nat.le_trans hb e2, e3⟩

set_option maxHeartbeats 4000000 in
theorem change_any (B : Nat) (a : Option Addr) (l : List ByteArray) (cap : Nat) (q : Int) (s : ByteArray) (w : World) (h : StrRow B a cap l w) (hl : l.length ≤ 10000) :
    Calls Try.prog 27 #[.agg #[.slice a l.length cap, .int .i64 q], .string s] w fun e w' => ∃ a' cap', e = .returned (.agg #[.slice a' (l.length + 1) cap', .int .i64 q]) ∧ StrRow w.heap.size a' cap' (l ++ [s]) w' ∧ Below w.heap.size w w' := by
  have HC : Hid (∀ W, Hst w W (.slice a l.length cap) q → Calls Try.prog 40 #[.slice a l.length cap] W fun e w' => ∃ v', e = .returned v' ∧ w'.ownsRow (w.heap.size + 2) 9 1 v' l.length (l.map Value.string) ∧ Below W.heap.size W w' ∧ Hst w w' (.slice a l.length cap) q) := by
    intro W hW
    refine (clone_any B a l cap W (h.below hW.bel) (by omega)).mono ?_
    rintro e w' ⟨v', rfl, ho, hb⟩
    exact ⟨v', rfl, own_mono ho hW.lt, hb, hW.below hb hW.lt⟩
  clear h
  go_enter Try.func27, Try.ntmps27
  go_wp2_with fail
  have H0 := Lib.hid (Hst.start w (.slice a l.length cap) q)
  generalize (w.alloc (Obj.cells #[.slice a l.length cap, .int .i64 q] 40)).alloc (Obj.cells #[.slice none 0 0, .int .i64 0] 40) = W0 at *
  have p0 := H0.out.p0
  have p1 := H0.out.p1
  have plt : w.heap.size < W0.heap.size := Nat.lt_of_lt_of_le (by omega) H0.out.lt
  have plt2 : w.heap.size + 1 < W0.heap.size := Nat.lt_of_lt_of_le (by omega) H0.out.lt
  replace H0 := Lib.hid (H0.out.below (Below.refl _ _).drew H0.out.lt)
  go_region_held3 (fun w' => w'.cell? ⟨w.heap.size, 0, none⟩ = some (.slice a l.length cap) ∧ w'.cell? ⟨w.heap.size, 1, none⟩ = some (.int .i64 q)) (go_keep) (first | (go_at_call 40; refine (HC.out _ (by first | exact H0.out | exact H0.out.below ((Below.refl _ _).alloc (Nat.le_refl _) _) H0.out.lt)).mono ?_; rintro e w1 ⟨v1, rfl, ho, hb1, H1⟩; have klt : w.heap.size < w1.heap.size := Nat.lt_of_lt_of_le (by omega) H1.lt; have k0 := H1.p0; have k1 := H1.p1) | (rw [if_pos (by rfl)]; refine wp_app (Operand.tmp 7) (Operand.tmp 9) rfl (w.heap.size + 2) v1 l rfl ?_ 0 _ [s] 1 rfl ?_ (by omega) (by simp) ?_ ?_; (first | exact ho | exact ho.alloc _); (first | exact StrRow.one_new _ _ _ | exact (StrRow.one_new _ _ _).below hb1 | exact ((StrRow.one_new _ _ _).below (Below.refl _ _).drew).below hb1); (first | exact H1.lt | exact Nat.le_trans H1.lt (by simp)); intro a2 cap2 w2 ho2 hr2 hb2; have H2 : Hst w w2 (.slice a l.length cap) q := (by first | exact H1.below hb2 (Nat.le_refl _) | exact (H1.below ((Below.refl _ _).alloc (Nat.le_refl _) _) H1.lt).below hb2 (Nat.le_refl _)); have k0' := H2.p0; have k1' := H2.p1; obtain ⟨u0, r0⟩ := H2.r0; obtain ⟨u1, r1⟩ := H2.r1; have f0 := H2.f0; have f1 := H2.f1))
  all_goals
    have HD := H2.done (.slice a2 (l.length + 1) cap2) q hr2
    generalize (w2.setCell { block := w.heap.size + 1, off := 0 } (Value.slice a2 (l.length + 1) cap2)).setCell { block := w.heap.size + 1, off := 1 } (Value.int IntKind.i64 q) = W3 at *
    obtain ⟨d0, d1, d2, d3⟩ := HD
    go_wp2_with fail
    refine bodyPost_ret (v := .agg #[.slice a2 (l.length + 1) cap2, .int .i64 q]) (by simp [results, Try.results27, go_sem, d0, d1]) rfl ⟨_, _, rfl, d3, d2⟩
end Go.Proofs.Ytebdnnfaghhpkaa
