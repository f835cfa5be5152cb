/- retry.less, retry.Add and its function value, slices.IndexFunc. -/
import Derived.Test.YthfjlojikbgnfaaIg
namespace Go.Proofs.Ythfjlojikbgnfaa
open Go.ChangeShapes Go.WideShapes Go.ChangeAt Go.RowKit

/-- a comes ahead of b -/
def lessB (a b : Ar) : Bool := decide (a.tk < b.tk ∨ a.tk = b.tk ∧ a.id < b.id)
set_option maxHeartbeats 1000000 in
theorem less_any (a b : Ar) (w : World) : Calls Try.prog 28 #[arVal a, arVal b] w (RetW (.bool (lessB a b)) w) := by
  have HR : Hid (lessB a b = decide (a.tk < b.tk ∨ a.tk = b.tk ∧ a.id < b.id)) := rfl
  have HB : Hid (Below w.heap.size w ((w.alloc (Obj.cells a.cells.toArray 40)).alloc (Obj.cells b.cells.toArray 40))) := ((Below.refl _ w).alloc (Nat.le_refl _) _).alloc (by simp) _
  simp only [Ar.cells] at HB
  unfold arVal
  generalize lessB a b = r at *
  obtain ⟨id, ten, kd, sec, cnt, dat, fua, ma, ml, mc, tm, tk, tr, mem⟩ := a
  obtain ⟨id', ten', kd', sec', cnt', dat', fua', ma', ml', mc', tm', tk', tr', mem'⟩ := b
  simp only at *
  rcases Int.lt_trichotomy tk tk' with h1 | h1 | h1
  · rw [decide_eq_true (Or.inl h1)] at HR
    go_enter Try.func28, Try.ntmps28
    go_wp2_with fail
    go_ret
    exact RetW.mk (by rw [HR.out]; first | done | rfl) HB.out
  · subst h1
    have e : decide (tk < tk ∨ tk = tk ∧ id < id') = decide (id < id') := by congr 1; rw [eq_iff_iff]; omega
    rw [e] at HR; clear e
    go_enter Try.func28, Try.ntmps28
    go_wp2_with fail
    go_ret
    exact RetW.mk (by rw [HR.out]; first | done | rfl) HB.out
  · rw [decide_eq_false (by omega)] at HR
    have h2 : ¬ tk < tk' := by omega
    have h3 : ¬ tk = tk' := by omega
    go_enter Try.func28, Try.ntmps28
    go_wp2_with fail
    all_goals (go_ret; exact RetW.mk (by rw [HR.out]; first | done | rfl) HB.out)

theorem lessX_any (x y : Ar) (b1 : Nat) (W : World) (h1 : W.rangeAt b1 0 x.cells) (hb1 : b1 < W.heap.size) :
    Calls Try.prog 27 #[arVal y, .pointer (some ⟨b1, 0, none⟩)] W (RetW (.bool (lessB x y)) W) := by
  obtain ⟨W0, hW0⟩ : ∃ W0, W0 = W.alloc (Obj.cells y.cells.toArray 40) := ⟨_, rfl⟩
  have HA0 : Hid (At W0 W.heap.size y.cells) := by rw [hW0]; exact At.new W y.cells 40
  have HB0 : Hid (Below W.heap.size W W0) := by rw [hW0]; exact (Below.refl _ _).alloc (Nat.le_refl _) _
  have HX : Hid (W0.rangeAt b1 0 x.cells) := fun j v hv => (HB0.out.cell (p := ⟨b1, 0 + j, none⟩) hb1).trans (h1 j v hv)
  have HL : Hid (Calls Try.prog 28 #[.agg x.cells.toArray, .agg y.cells.toArray] W0 (RetW (.bool (lessB x y)) W0)) := less_any x y W0
  clear h1
  unfold arVal
  simp only [Ar.cells] at hW0
  go_enter Try.func27, Try.ntmps27
  go_wp2_with (with_reducible refine hold_load 40 rfl ?_)
  rw [← hW0]
  clear hW0
  refine load_ato 0 HX.out Try.underlying40 rfl size40 rfl rfl rfl ?_
  go_wp2_with (with_reducible refine hold_load 40 rfl ?_)
  refine load_ato 0 HA0.out.r Try.underlying40 rfl size40 rfl rfl rfl ?_
  go_wp2_with fail
  refine HL.out.mono ?_; rintro e w2 ⟨rfl, hb⟩
  have HB2 := Lib.hid (HB0.out.trans (hb.mono HB0.out.size))
  clear hb
  go_wp2_with fail
  go_ret
  exact RetW.mk rfl HB2.out

/-- function fn with the variables lb tells of each element whether it is sought, in each world in which all that lay in w0 lies as it lay -/
def GoneAt (w0 : World) (fn : Nat) (lb : Array Value) (gone : Ar → Bool) : Prop :=
  ∀ (W : World) (x : Ar), Below w0.heap.size w0 W → Calls Try.prog fn (#[arVal x] ++ lb) W (RetW (.bool (gone x)) W)
set_option maxHeartbeats 4000000 in
theorem indexF_any (fn : Nat) (lb : Array Value) (gone : Ar → Bool) (eg : ∀ args w, (callFunc fn args).run Try.prog w = .ok (.enter fn args) w)
    (b : Option Addr) (l : List Ar) (cap : Nat) (w : World) (h : ARow w b cap l) (hl : l.length ≤ 100) (hG : GoneAt w fn lb gone) :
    Calls Try.prog 26 #[.slice b l.length cap, .func (.func fn) #[] lb] w fun e w' => ∃ r : Int, e = .returned (.int .i64 r) ∧ ((r = -1 ∧ ∀ j, j < l.length → gone (l.getD j Ar.zero) = false) ∨ ∃ k : Nat, r = k ∧ k < l.length ∧ gone (l.getD k Ar.zero) = true ∧ ∀ j, j < k → gone (l.getD j Ar.zero) = false) ∧ Below w.heap.size w w' := by
  have HA : Hid (∀ W, Below w.heap.size w W → ∀ j, j < l.length → ∃ g o, b = some ⟨g, o, none⟩ ∧ (l.length : Int) ≤ cap ∧ W.rangeAt g (o + j * 11) (l.getD j Ar.zero).cells) := by
    intro W hb j hj
    obtain ⟨g, o, h1, h2, h3, h4, h5⟩ := (h.below hb).at (by omega)
    exact ⟨g, o, h1, by omega, h5 j hj⟩
  have HG : Hid (∀ W x, Below w.heap.size w W → Calls Try.prog fn (#[.agg x.cells.toArray] ++ lb) W (RetW (.bool (gone x)) W)) := fun W x hb => hG W x hb
  clear h hG
  go_enter Try.func26, Try.ntmps26
  go_wp2_with fail
  go_loopw [8] (fun v8 wr => ∃ k : Nat, k ≤ l.length ∧ v8 = .int .i64 k ∧ Hid (Below w.heap.size w wr) ∧ Hid (∀ j, j < k → gone (l.getD j Ar.zero) = false)) (fun v8 _ => 200 - (intOf v8).toNat)
  case atStart => exact ⟨0, Nat.zero_le _, rfl, Below.refl _ _, fun j hj => absurd hj (Nat.not_lt_zero _)⟩
  case round =>
    obtain ⟨k, hk, rfl, HB, HF⟩ := hrel
    by_cases hlt : k < l.length
    · have hlt' : (k : Int) < (l.length : Int) := by omega
      obtain ⟨g, o, rfl, hcap, hcel⟩ := HA.out _ HB.out k hlt
      have hc := HG.out wr (l.getD k Ar.zero) HB.out
      have HN : Hid (gone (l.getD k Ar.zero) = false → ∀ j, j < k + 1 → gone (l.getD j Ar.zero) = false) := fun h j hj => by
        by_cases e : j = k
        · rw [e]; exact h
        · exact HF.out j (by omega)
      have HH : Hid (gone (l.getD k Ar.zero) = true → ((k : Int) = -1 ∧ ∀ j, j < l.length → gone (l.getD j Ar.zero) = false) ∨ ∃ k' : Nat, (k : Int) = k' ∧ k' < l.length ∧ gone (l.getD k' Ar.zero) = true ∧ ∀ j, j < k' → gone (l.getD j Ar.zero) = false) := fun h => Or.inr ⟨k, rfl, hlt, h, HF.out⟩
      clear HA HG
      generalize gone (l.getD k Ar.zero) = gb at *
      generalize l.getD k Ar.zero = x at *
      have HC := Lib.hid hc
      have HROW := Lib.hid hcel
      clear hc hcel
      cases gb with
      | true =>
        go_wp2_with (with_reducible refine hold_load 40 rfl ?_)
        refine load_ato (o + k * 11) HROW.out Try.underlying40 rfl size40 rfl rfl rfl ?_
        go_wp2_with (go_at_fn fn; refine HC.out.mono ?_; rintro e w' ⟨rfl, hb⟩)
        go_ret
        exact ⟨k, rfl, HH.out (by first | rfl | trivial), HB.out.trans (hb.mono HB.out.size)⟩
      | false =>
        go_wp2_with (with_reducible refine hold_load 40 rfl ?_)
        refine load_ato (o + k * 11) HROW.out Try.underlying40 rfl size40 rfl rfl rfl ?_
        go_wp2_with (go_at_fn fn; refine HC.out.mono ?_; rintro e w' ⟨rfl, hb⟩)
        have HB2 := Lib.hid (HB.out.trans (hb.mono HB.out.size))
        have HN2 := Lib.hid (HN.out (by first | rfl | trivial))
        go_roundw
        case rel => exact ⟨k + 1, by omega, by go_num, HB2, HN2⟩
        case measure => simp [intOf]; omega
    · obtain rfl : k = l.length := by omega
      go_wp2_with fail
      go_ret
      exact ⟨-1, rfl, Or.inl ⟨rfl, HF.out⟩, HB.out⟩
end Go.Proofs.Ythfjlojikbgnfaa
