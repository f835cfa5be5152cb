/- RetryNext's walk. -/
import Derived.Test.YthfjlojikbgnfaaLt
namespace Go.Proofs.Ythfjlojikbgnfaa
open Go.ChangeShapes Go.WideShapes Go.ChangeAt Go.RowKit

theorem leastTo_le (l : List Ar) : ∀ k, k ≤ l.length → 0 < k → (∀ y ∈ l.take k, leastTo l k ≤ y.tk) ∧ ∃ y ∈ l.take k, y.tk = leastTo l k := by
  intro k
  induction k with
  | zero => intro _ h; omega
  | succ k ih =>
    intro hk _
    have hlt : k < l.length := by omega
    rw [leastTo_succ l k hlt, List.take_add_one, List.getElem?_eq_getElem hlt, getD_get hlt]
    simp only [Option.toList_some, List.mem_append, List.mem_singleton]
    rcases Nat.eq_zero_or_pos k with rfl | hp
    · have e : leastTo l 0 = l[0].tk := by unfold leastTo; rw [getD_get hlt]; simp
      rw [e, Int.min_self]
      refine ⟨fun y hy => ?_, l[0], Or.inr rfl, rfl⟩
      rcases hy with hy | rfl
      · simp at hy
      · exact Int.le_refl _
    · obtain ⟨h1, y, hy, e⟩ := ih (by omega) hp
      refine ⟨fun z hz => ?_, ?_⟩
      · rcases hz with hz | rfl
        · exact Int.le_trans (Int.min_le_left _ _) (h1 z hz)
        · exact Int.min_le_right _ _
      · by_cases hle : leastTo l k ≤ l[k].tk
        · exact ⟨y, Or.inl hy, by rw [Int.min_eq_left hle]; exact e⟩
        · exact ⟨l[k], Or.inr rfl, by rw [Int.min_eq_right (by omega)]⟩
theorem least_le (l : List Ar) (hl : 0 < l.length) : (∀ y ∈ l, leastL l ≤ y.tk) ∧ ∃ y ∈ l, y.tk = leastL l := by
  have h := leastTo_le l l.length (Nat.le_refl _) hl
  rw [List.take_length] at h
  exact h
/-- how many bunches need not wait -/
theorem ready_none (l : List Ar) (n : Int) (h : ∀ y ∈ l, n < y.tk) : (l.map key).filter (fun x => !lateB n x) = [] := by
  rw [List.filter_eq_nil_iff]
  intro y hy
  obtain ⟨z, hz, rfl⟩ := List.mem_map.1 hy
  have := h z hz
  show ¬ (!decide (n < z.tk)) = true
  simp [this]
theorem ready_some (l : List Ar) (n : Int) (h : ∃ y ∈ l, y.tk ≤ n) : (l.map key).filter (fun x => !lateB n x) ≠ [] := by
  obtain ⟨y, hy, he⟩ := h
  intro e
  rw [List.filter_eq_nil_iff] at e
  have := e (key y) (List.mem_map.2 ⟨y, hy, rfl⟩)
  apply this
  show (!decide (n < y.tk)) = true
  simp; omega

set_option maxHeartbeats 2000000 in
theorem next_walk (a0 : Option Addr) (len0 cap0 : Nat) (w : World) (h : ArgRow w a0 len0) (hlm : len0 ≤ maxLen) :
    Calls Try.prog 7 #[.slice a0 len0 cap0] w (RetW (.bool true) w) := by
  have HLT := Lib.hid (llater_any a0 len0 cap0 w h hlm)
  clear h hlm
  go_enter Try.func7, Try.ntmps7
  go_wp2_with fail
  refine HLT.out.mono ?_; rintro e w1 ⟨a, c, l, rfl, hL, hR, hb⟩
  have HL := Lib.hid hL
  have HR := Lib.hid hR
  have HB := Lib.hid hb
  have hm : min 8 len0 = l.length := hL.len.symm
  have hm2 : l.length ≤ 8 := by omega
  have HM : Hid (min 8 len0 = l.length) := hm
  rw [hm]
  clear hL hR hb HLT hm
  have HNX := Lib.hid (next_any a l c w1 HR.out (by omega))
  by_cases h0 : l.length = 0
  · have hl0 : len0 = 0 := by have := HM.out; omega
    subst hl0
    have hv : nextVal l = .tuple #[.int .i64 0, .bool false] := by unfold nextVal; rw [if_pos h0]
    rw [hv] at HNX
    have hz : (l.length : Int) = 0 := by omega
    clear hv h0
    go_wp2_with fail
    refine HNX.out.mono ?_; rintro e w2 ⟨rfl, hb⟩
    have HB2 := Lib.hid (HB.out.trans (hb.mono HB.out.size))
    clear hb
    go_wp2_with fail
    refine (awake_any w2).mono ?_; rintro e w3 ⟨rfl, hb⟩
    have HB3 := Lib.hid (HB2.out.trans (hb.mono HB2.out.size))
    clear hb
    go_wp2_with fail
    go_ret
    exact RetW.mk rfl HB3.out
  · have hv : nextVal l = .tuple #[.int .i64 (leastL l), .bool true] := by unfold nextVal; rw [if_neg h0]
    rw [hv] at HNX
    clear hv
    obtain ⟨hle, hat⟩ := least_le l (by omega)
    have hn0 : 0 ≤ leastL l ∧ leastL l < 9 := by
      obtain ⟨y, hy, e⟩ := hat
      have := HL.out.tks y hy
      omega
    have HN1 := Lib.hid (ready_none l (leastL l - 1) (fun y hy => by have := hle y hy; omega))
    have HN2 := Lib.hid (ready_some l (leastL l) (by obtain ⟨y, hy, e⟩ := hat; exact ⟨y, hy, by omega⟩))
    clear hle hat
    generalize leastL l = n at *
    obtain ⟨hn1, hn2⟩ := hn0
    have hw1 : IntKind.i64.wrap (n - 1) = n - 1 := IntWalk.i64_in _ (by omega)
    go_wp2_with fail
    refine HNX.out.mono ?_; rintro e w2 ⟨rfl, hb⟩
    have HB2 := Lib.hid (HB.out.trans (hb.mono HB.out.size))
    have HR2 := Lib.hid (HR.out.below hb)
    have HL2 := Lib.hid (HL.out.below hb)
    clear hb HNX HR HL
    go_wp2_with fail
    refine (ready_any a l c (n - 1) w2 HR2.out HL2.out.mem (by omega)).mono ?_
    rintro e w3 ⟨a1, c1, l1, a2, c2, l2, rfl, _, hk2, _, _, _, _, hb⟩
    have HB3 := Lib.hid (HB2.out.trans (hb.mono HB2.out.size))
    have HR3 := Lib.hid (HR2.out.below hb)
    have HL3 := Lib.hid (HL2.out.below hb)
    have hz2 : l2.length = 0 := by
      rw [HN1.out] at hk2
      have := congrArg List.length hk2
      simpa using this
    rw [hz2]
    clear hb hk2 hz2 HR2 HL2
    go_wp2_with fail
    refine (ready_any a l c n w3 HR3.out HL3.out.mem (by omega)).mono ?_
    rintro e w4 ⟨a3, c3, l3, a4, c4, l4, rfl, _, hk4, _, _, _, _, hb⟩
    have HB4 := Lib.hid (HB3.out.trans (hb.mono HB3.out.size))
    have hz4 : 0 < l4.length := by
      rcases Nat.eq_zero_or_pos l4.length with h | h
      · have e := List.length_eq_zero_iff.1 h
        rw [e] at hk4
        exact absurd hk4.symm HN2.out
      · exact h
    have hz5 : (0 : Int) < (l4.length : Int) := by omega
    clear hb hk4
    go_wp2_with fail
    refine (awake_any w4).mono ?_; rintro e w5 ⟨rfl, hb⟩
    have HB5 := Lib.hid (HB4.out.trans (hb.mono HB4.out.size))
    clear hb
    go_wp2_with fail
    go_ret
    exact RetW.mk rfl HB5.out
end Go.Proofs.Ythfjlojikbgnfaa
