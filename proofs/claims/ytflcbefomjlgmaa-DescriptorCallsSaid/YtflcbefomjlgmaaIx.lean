/- slices.Index at numbers and at descriptions, slices.ContainsFunc, free. -/
import Derived.Test.YtflcbefomjlgmaaNu
import Derived.Test.YtflcbefomjlgmaaCo
set_option linter.unusedSimpArgs false
set_option linter.unusedVariables false
namespace Go.Proofs.Ytflcbefomjlgmaa
open Go.ChangeShapes Go.WideShapes Go.ChangeAt Go.RowKit

/-- the first place at which f holds, or -1 -/
def fst {α : Type} (f : α → Bool) (l : List α) : Int := if l.findIdx f < l.length then (l.findIdx f : Int) else -1
theorem fst_hit {α : Type} {f : α → Bool} {l : List α} {d : α} {k : Nat} (hk : k < l.length) (h : ∀ j, j < k → f (l.getD j d) = false) (hf : f (l.getD k d) = true) : fst f l = k := by
  have e : l.findIdx f = k := by
    rw [List.findIdx_eq hk]
    refine ⟨by rw [← getD_get (d := d) hk]; exact hf, fun j hj => ?_⟩
    rw [← getD_get (d := d) (show j < l.length by omega)]
    exact h j hj
  unfold fst
  rw [e, if_pos hk]
theorem fst_miss {α : Type} {f : α → Bool} {l : List α} {d : α} (h : ∀ j, j < l.length → f (l.getD j d) = false) : fst f l = -1 := by
  have e : ¬ l.findIdx f < l.length := fun hh => by
    have h1 := List.findIdx_getElem (w := hh)
    have h2 := h _ hh
    rw [getD_get hh, h1] at h2
    cases h2
  unfold fst
  rw [if_neg e]
theorem fst_cases {α : Type} (f : α → Bool) (l : List α) (d : α) : (fst f l = -1 ∧ ∀ j, j < l.length → f (l.getD j d) = false) ∨ ∃ k : Nat, fst f l = k ∧ k < l.length ∧ f (l.getD k d) = true ∧ ∀ j, j < k → f (l.getD j d) = false := by
  unfold fst
  by_cases h : l.findIdx f < l.length
  · rw [if_pos h]
    refine Or.inr ⟨_, rfl, h, ?_, fun j hj => ?_⟩
    · rw [getD_get h]; exact List.findIdx_getElem (w := h)
    · rw [getD_get (show j < l.length by omega)]
      have := List.not_of_lt_findIdx hj
      simpa using this
  · rw [if_neg h]
    refine Or.inl ⟨rfl, fun j hj => ?_⟩
    rw [getD_get hj]
    have := List.not_of_lt_findIdx (show j < l.findIdx f by omega)
    simpa using this
def zeroB (z : Int) : Bool := decide (z = 0)
def noneB (a : Dn) : Bool := decide (a = Dn.zero)

set_option maxHeartbeats 4000000 in
theorem index_any (a : Option Addr) (c : Nat) (l : List Int) (w : World) (h : RowOf w a l.length c (ints l)) (hl : l.length ≤ 10000) :
    Calls Try.prog 35 #[.slice a l.length c, .int .i64 0] w (RetW (.int .i64 (fst zeroB l)) w) := by
  have HA : Hid (∀ W, Below w.heap.size w W → ∀ j, j < l.length → ∃ g o, a = some ⟨g, o, none⟩ ∧ (l.length : Int) ≤ c ∧ (c : Int) ≤ 9223372036854775807 ∧ W.cell? ⟨g, o + j, none⟩ = some (.int .i64 (l.getD j 0))) := by
    intro W hb j hj
    obtain ⟨g, o, h1, h2, h3, h4, h5⟩ := (h.below hb).at (by omega)
    exact ⟨g, o, h1, h3, h4, h5 j _ (ints_at _ j hj)⟩
  clear h
  go_enter Try.func35, Try.ntmps35
  go_wp2_with fail
  go_loopw [8] (fun v8 wr => ∃ k : Nat, k ≤ l.length ∧ v8 = .int .i64 k ∧ Hid (∀ j, j < k → zeroB (l.getD j 0) = false) ∧ Hid (Below w.heap.size w wr)) (fun v8 _ => 20000 - (intOf v8).toNat)
  case atStart => exact ⟨0, Nat.zero_le _, rfl, (fun j hj => absurd hj (Nat.not_lt_zero _)), Below.refl _ _⟩
  case round =>
    obtain ⟨k, hk, rfl, HT, HB⟩ := hrel
    by_cases hlt : k < l.length
    · have hlt' : (k : Int) < (l.length : Int) := by omega
      obtain ⟨g, o, rfl, h1, h2, h3⟩ := HA.out wr HB.out k hlt
      have HH : Hid (zeroB (l.getD k 0) = true → fst zeroB l = k) := fun hh => fst_hit (d := 0) hlt HT.out hh
      have HN : Hid (zeroB (l.getD k 0) = false → ∀ j, j < k + 1 → zeroB (l.getD j 0) = false) := fun hh j hj => by
        by_cases e : j = k
        · rw [e]; exact hh
        · exact HT.out j (by omega)
      generalize l.getD k 0 = z at *
      by_cases hz : z = 0
      · subst hz
        have HV := Lib.hid (HH.out rfl)
        go_wp2_with fail
        go_ret
        exact RetW.mk (by rw [HV.out]; try rfl) HB.out
      · have HV := Lib.hid (HN.out (decide_eq_false hz))
        have hz1 : (0 == z) = false := by simp; omega
        go_wp2_with fail
        go_roundw
        case rel => exact ⟨k + 1, by omega, by go_num, HV, HB⟩
        case measure => simp [intOf]; omega
    · obtain rfl : k = l.length := by omega
      have HV := Lib.hid (fst_miss (d := 0) HT.out)
      go_wp2_with fail
      go_ret
      exact RetW.mk (by rw [HV.out]; try rfl) HB.out

set_option maxHeartbeats 4000000 in
theorem indexF_any (a : Option Addr) (c : Nat) (l : List Int) (w : World) (h : RowOf w a l.length c (ints l)) (hl : l.length ≤ 10000) :
    Calls Try.prog 47 #[.slice a l.length c, .func (.func 42) #[] #[]] w (RetW (.int .i64 (fst (fun z => !zeroB z) l)) w) := by
  have HA : Hid (∀ W, Below w.heap.size w W → ∀ j, j < l.length → ∃ g o, a = some ⟨g, o, none⟩ ∧ (l.length : Int) ≤ c ∧ (c : Int) ≤ 9223372036854775807 ∧ W.cell? ⟨g, o + j, none⟩ = some (.int .i64 (l.getD j 0))) := by
    intro W hb j hj
    obtain ⟨g, o, h1, h2, h3, h4, h5⟩ := (h.below hb).at (by omega)
    exact ⟨g, o, h1, h3, h4, h5 j _ (ints_at _ j hj)⟩
  have HF : Hid (∀ (z : Int) (W : World), Calls Try.prog 42 #[.int .i64 z] W fun e w' => e = .returned (.bool (!zeroB z)) ∧ W = w') := fun z W => by
    have hzb : (z != 0) = (!zeroB z) := by unfold zeroB; by_cases hz : z = 0 <;> simp [hz]
    go_enter Try.func42, Try.ntmps42
    go_wp2_with fail
    go_ret
    exact ⟨by rw [← hzb]; rfl, rfl⟩
  clear h
  go_enter Try.func47, Try.ntmps47
  go_wp2_with fail
  go_loopw [8] (fun v8 wr => ∃ k : Nat, k ≤ l.length ∧ v8 = .int .i64 k ∧ Hid (∀ j, j < k → (fun z => !zeroB z) (l.getD j 0) = false) ∧ Hid (Below w.heap.size w wr)) (fun v8 _ => 20000 - (intOf v8).toNat)
  case atStart => exact ⟨0, Nat.zero_le _, rfl, (fun j hj => absurd hj (Nat.not_lt_zero _)), Below.refl _ _⟩
  case round =>
    obtain ⟨k, hk, rfl, HT, HB⟩ := hrel
    by_cases hlt : k < l.length
    · have hlt' : (k : Int) < (l.length : Int) := by omega
      obtain ⟨g, o, rfl, h1, h2, h3⟩ := HA.out wr HB.out k hlt
      have HH : Hid ((!zeroB (l.getD k 0)) = true → fst (fun z => !zeroB z) l = k) := fun hh => fst_hit (d := 0) hlt HT.out hh
      have HN : Hid ((!zeroB (l.getD k 0)) = false → ∀ j, j < k + 1 → (fun z => !zeroB z) (l.getD j 0) = false) := fun hh j hj => by
        by_cases e : j = k
        · rw [e]; exact hh
        · exact HT.out j (by omega)
      have HC := Lib.hid (HF.out (l.getD k 0) wr)
      clear HF
      generalize l.getD k 0 = z at *
      generalize (!zeroB z) = zb at *
      cases zb with
      | true =>
        have HV := Lib.hid (HH.out rfl)
        go_wp2_with (first | (go_at_call 42; refine HC.out.mono ?_; rintro e w' ⟨rfl, rfl⟩) | (go_at_fn 42; refine HC.out.mono ?_; rintro e w' ⟨rfl, rfl⟩))
        go_ret
        exact RetW.mk (by rw [HV.out]; try rfl) HB.out
      | false =>
        have HV := Lib.hid (HN.out rfl)
        go_wp2_with (first | (go_at_call 42; refine HC.out.mono ?_; rintro e w' ⟨rfl, rfl⟩) | (go_at_fn 42; refine HC.out.mono ?_; rintro e w' ⟨rfl, rfl⟩))
        go_roundw
        case rel => exact ⟨k + 1, by omega, by go_num, HV, HB⟩
        case measure => simp [intOf]; omega
    · obtain rfl : k = l.length := by omega
      have HV := Lib.hid (fst_miss (f := fun z => !zeroB z) (d := 0) HT.out)
      go_wp2_with fail
      go_ret
      exact RetW.mk (by rw [HV.out]; try rfl) HB.out

/-- some descriptor of the table is taken -/
def anyB (l : List Int) : Bool := decide (0 ≤ fst (fun z => !zeroB z) l)
set_option maxHeartbeats 1000000 in
theorem contains_any (a : Option Addr) (c : Nat) (l : List Int) (w : World) (h : RowOf w a l.length c (ints l)) (hl : l.length ≤ 10000) :
    Calls Try.prog 41 #[.slice a l.length c, .func (.func 42) #[] #[]] w (RetW (.bool (anyB l)) w) := by
  have HC := Lib.hid (indexF_any a c l w h hl)
  have HV : Hid (anyB l = decide (0 ≤ fst (fun z => !zeroB z) l)) := rfl
  generalize anyB l = r at *
  generalize fst (fun z => !zeroB z) l = z at *
  clear h
  go_enter Try.func41, Try.ntmps41
  go_wp2_with fail
  refine HC.out.mono ?_
  rintro e w' ⟨rfl, hb⟩
  go_wp2_with fail
  go_ret
  exact RetW.mk (by rw [HV.out]; try rfl) hb

set_option maxHeartbeats 4000000 in
theorem indexD_any (a : Option Addr) (c : Nat) (l : List Dn) (w : World) (h : RowOf w a l.length c (oflat l)) (hl : l.length ≤ 10000) :
    Calls Try.prog 36 #[.slice a l.length c, .agg #[.int .i64 0, .int .i64 0, .int .i64 0, .int .i64 0, .int .i64 0]] w (RetW (.int .i64 (fst noneB l)) w) := by
  have HA : Hid (∀ W, Below w.heap.size w W → ∀ j, j < l.length → ∃ g o, a = some ⟨g, o, none⟩ ∧ (l.length : Int) ≤ c ∧ (c : Int) ≤ 9223372036854775807 ∧ DCel W g (o + j * 5) (l.getD j Dn.zero)) := by
    intro W hb j hj
    obtain ⟨g, o, h1, h2, h3, h4, h5⟩ := (h.below hb).at (by omega)
    refine ⟨g, o, h1, h3, h4, DCel.of fun i v hi => ?_⟩
    have hi5 : i < 5 := (List.getElem?_eq_some_iff.1 hi).1
    rw [Nat.add_assoc]
    exact h5 _ v (by rw [oflat_at _ _ hj _ hi5]; exact hi)
  clear h
  have HX0 : Hid (Below w.heap.size w (w.alloc (Obj.cells #[.int .i64 0, .int .i64 0, .int .i64 0, .int .i64 0, .int .i64 0] 34))) := (Below.refl _ _).alloc (Nat.le_refl _) _
  have hq := DCel.new w Dn.zero
  have HQ : Hid (∀ W, Below (w.heap.size + 1) (w.alloc (Obj.cells #[.int .i64 0, .int .i64 0, .int .i64 0, .int .i64 0, .int .i64 0] 34)) W → DCel W w.heap.size 0 Dn.zero) := fun W hb => hq.below hb (Nat.lt_succ_self _)
  clear hq
  go_enter Try.func36, Try.ntmps36
  go_wp2_with fail
  generalize w.alloc (Obj.cells #[.int .i64 0, .int .i64 0, .int .i64 0, .int .i64 0, .int .i64 0] 34) = w1 at *
  go_loopw [8] (fun v8 wr => ∃ k : Nat, k ≤ l.length ∧ v8 = .int .i64 k ∧ Hid (∀ j, j < k → noneB (l.getD j Dn.zero) = false) ∧ Hid (Below (w.heap.size + 1) w1 wr)) (fun v8 _ => 20000 - (intOf v8).toNat)
  case atStart => exact ⟨0, Nat.zero_le _, rfl, (fun j hj => absurd hj (Nat.not_lt_zero _)), Below.refl _ _⟩
  case round =>
    obtain ⟨k, hk, rfl, HT, HB⟩ := hrel
    have HBW := Lib.hid (HX0.out.trans (HB.out.mono (Nat.le_succ _)))
    by_cases hlt : k < l.length
    · have hlt' : (k : Int) < (l.length : Int) := by omega
      obtain ⟨g, o, rfl, h1, h2, h3⟩ := HA.out wr HBW.out k hlt
      have HH : Hid (noneB (l.getD k Dn.zero) = true → fst noneB l = k) := fun hh => fst_hit (d := Dn.zero) hlt HT.out hh
      have HN : Hid (noneB (l.getD k Dn.zero) = false → ∀ j, j < k + 1 → noneB (l.getD j Dn.zero) = false) := fun hh j hj => by
        by_cases e : j = k
        · rw [e]; exact hh
        · exact HT.out j (by omega)
      obtain ⟨q0, q1, q2, q3, q4⟩ := HQ.out wr HB.out
      simp only [Dn.zero, Nat.zero_add] at q0 q1 q2 q3 q4
      generalize l.getD k Dn.zero = e at *
      obtain ⟨fi, fl, f, cu, rf⟩ := e
      obtain ⟨k0, k1, k2, k3, k4⟩ := h3
      simp only at k0 k1 k2 k3 k4
      by_cases hz : fi = 0 ∧ fl = 0 ∧ f = 0 ∧ cu = 0 ∧ rf = 0
      · obtain ⟨rfl, rfl, rfl, rfl, rfl⟩ := hz
        have HV := Lib.hid (HH.out rfl)
        go_wp2_with fail
        go_quiet (fail)
        go_wp2_with fail
        go_ret
        exact RetW.mk (by rw [HV.out]; try rfl) (below_drewN HBW.out _)
      · have HV := Lib.hid (HN.out (decide_eq_false (fun e => hz (by cases e; exact ⟨rfl, rfl, rfl, rfl, rfl⟩))))
        by_cases hn0 : fi = 0
        rotate_left
        · have hm0 : ¬ 0 = fi := fun e => hn0 e.symm
          go_wp2_with fail
          go_quiet (fail)
          go_wp2_with fail
          go_roundw
          case rel => exact ⟨k + 1, by omega, by go_num, HV, below_drewN HB.out _⟩
          case measure => simp [intOf]; omega
        subst hn0
        by_cases hn1 : fl = 0
        rotate_left
        · have hm1 : ¬ 0 = fl := fun e => hn1 e.symm
          go_wp2_with fail
          go_quiet (fail)
          go_wp2_with fail
          go_roundw
          case rel => exact ⟨k + 1, by omega, by go_num, HV, below_drewN HB.out _⟩
          case measure => simp [intOf]; omega
        subst hn1
        by_cases hn2 : f = 0
        rotate_left
        · have hm2 : ¬ 0 = f := fun e => hn2 e.symm
          go_wp2_with fail
          go_quiet (fail)
          go_wp2_with fail
          go_roundw
          case rel => exact ⟨k + 1, by omega, by go_num, HV, below_drewN HB.out _⟩
          case measure => simp [intOf]; omega
        subst hn2
        by_cases hn3 : cu = 0
        rotate_left
        · have hm3 : ¬ 0 = cu := fun e => hn3 e.symm
          go_wp2_with fail
          go_quiet (fail)
          go_wp2_with fail
          go_roundw
          case rel => exact ⟨k + 1, by omega, by go_num, HV, below_drewN HB.out _⟩
          case measure => simp [intOf]; omega
        subst hn3
        have hn4 : ¬ rf = 0 := fun e => hz ⟨rfl, rfl, rfl, rfl, e⟩
        have hm4 : ¬ 0 = rf := fun e => hn4 e.symm
        clear hz
        go_wp2_with fail
        go_quiet (fail)
        go_wp2_with fail
        go_roundw
        case rel => exact ⟨k + 1, by omega, by go_num, HV, below_drewN HB.out _⟩
        case measure => simp [intOf]; omega
    · obtain rfl : k = l.length := by omega
      have HV := Lib.hid (fst_miss (d := Dn.zero) HT.out)
      go_wp2_with fail
      go_ret
      exact RetW.mk (by rw [HV.out]; try rfl) HBW.out

set_option maxHeartbeats 4000000 in
theorem free_any (x : Dv) (p : Nat) (w : World) (h : DIn w x) (hp : p < x.t.length) (h16 : (x.t.getD p Tb.nil).l.length = 16) :
    Calls Try.prog 38 #[dVal x, .int .i64 (p : Int)] w (RetW (.int .i64 (fst zeroB (x.t.getD p Tb.nil).l)) w) := by
  have HR := Lib.hid h.rows
  clear h
  unfold dVal
  obtain ⟨oa, oc, o, ta, tc, t⟩ := x
  simp only at HR hp h16 ⊢
  have hp' : (p : Int) < (t.length : Int) := by omega
  have HX : Hid (∀ W, Below w.heap.size w W → ∃ g of, ta = some ⟨g, of, none⟩ ∧ (t.length : Int) ≤ tc ∧ (tc : Int) ≤ 9223372036854775807 ∧ W.cell? ⟨g, of + p, none⟩ = some (.slice (t.getD p Tb.nil).a (t.getD p Tb.nil).l.length (t.getD p Tb.nil).c) ∧
    ∀ j, j < (t.getD p Tb.nil).l.length → ∃ g' o', (t.getD p Tb.nil).a = some ⟨g', o', none⟩ ∧ ((t.getD p Tb.nil).l.length : Int) ≤ (t.getD p Tb.nil).c ∧ ((t.getD p Tb.nil).c : Int) ≤ 9223372036854775807 ∧ W.cell? ⟨g', o' + j, none⟩ = some (.int .i64 ((t.getD p Tb.nil).l.getD j 0))) := fun W hb => HR.out W hb p hp
  clear HR
  generalize t.getD p Tb.nil = y at *
  obtain ⟨ya, yc, yl⟩ := y
  simp only at HX h16 ⊢
  have hyl : (yl.length : Int) = 16 := by omega
  have HB0 : Hid (Below w.heap.size w (w.alloc (Obj.cells #[.slice oa o.length oc, .slice ta t.length tc] 29))) := (Below.refl _ _).alloc (Nat.le_refl _) _
  have HP : Hid (∀ W, Below (w.heap.size + 1) (w.alloc (Obj.cells #[.slice oa o.length oc, .slice ta t.length tc] 29)) W → W.cell? ⟨w.heap.size, 1, none⟩ = some (.slice ta t.length tc)) := fun W hb => (hb.cell (p := ⟨w.heap.size, 1, none⟩) (Nat.lt_succ_self _)).trans (by simp)
  go_enter Try.func38, Try.ntmps38
  go_wp2_with fail
  generalize w.alloc (Obj.cells #[.slice oa o.length oc, .slice ta t.length tc] 29) = w1 at *
  go_loopw [5] (fun v5 wr => ∃ k : Nat, k ≤ 16 ∧ v5 = .int .i64 k ∧ Hid (∀ j, j < k → zeroB (yl.getD j 0) = false) ∧ Hid (Below (w.heap.size + 1) w1 wr)) (fun v5 _ => 200 - (intOf v5).toNat)
  case atStart => exact ⟨0, Nat.zero_le _, rfl, (fun j hj => absurd hj (Nat.not_lt_zero _)), Below.refl _ _⟩
  case round =>
    obtain ⟨k, hk, rfl, HT, HB⟩ := hrel
    have HBW := Lib.hid (HB0.out.trans (HB.out.mono (Nat.le_succ _)))
    by_cases hlt : k < 16
    · have hlt' : (k : Int) < 16 := by omega
      obtain ⟨g, of, rfl, a1, a2, a3, a4⟩ := HX.out wr HBW.out
      obtain ⟨g', of', rfl, b1, b2, b3⟩ := a4 k (by omega)
      have hp1 := HP.out wr HB.out
      have HH : Hid (zeroB (yl.getD k 0) = true → fst zeroB yl = k) := fun hh => fst_hit (d := 0) (by omega) HT.out hh
      have HN : Hid (zeroB (yl.getD k 0) = false → ∀ j, j < k + 1 → zeroB (yl.getD j 0) = false) := fun hh j hj => by
        by_cases e : j = k
        · rw [e]; exact hh
        · exact HT.out j (by omega)
      clear a4 HX
      generalize yl.getD k 0 = z at *
      by_cases hz : z = 0
      · subst hz
        have HV := Lib.hid (HH.out rfl)
        go_wp2_with fail
        go_ret
        exact RetW.mk (by rw [HV.out]; try rfl) HBW.out
      · have HV := Lib.hid (HN.out (decide_eq_false hz))
        have hz1 : (z == 0) = false := by simpa using hz
        go_wp2_with fail
        go_roundw
        case rel => exact ⟨k + 1, by omega, by go_num, HV, HB⟩
        case measure => simp [intOf]; omega
    · obtain rfl : k = 16 := by omega
      have HV := Lib.hid (fst_miss (f := zeroB) (l := yl) (d := 0) (by rw [h16]; exact HT.out))
      go_wp2_with fail
      go_ret
      exact RetW.mk (by rw [HV.out]; try rfl) HBW.out
end Go.Proofs.Ytflcbefomjlgmaa
