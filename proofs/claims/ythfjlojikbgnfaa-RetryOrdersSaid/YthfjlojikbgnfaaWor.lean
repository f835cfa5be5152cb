/- RetryOrders' walk. -/
import Derived.Test.YthfjlojikbgnfaaAp
namespace Go.Proofs.Ythfjlojikbgnfaa
open Go.ChangeShapes Go.WideShapes Go.ChangeAt Go.RowKit

theorem split_ord (n : Int) (l : List Ar) (ho : Ord l) : l.filter (fun x => !lateB n x) ++ l.filter (lateB n) = l := by
  induction l with
  | nil => rfl
  | cons y r ih =>
    obtain ⟨h1, h2⟩ := List.pairwise_cons.1 ho
    by_cases hy : lateB n y = true
    · have hr : ∀ z ∈ r, lateB n z = true := fun z hz => by
        have := h1 z hz
        rw [lessB_iff] at this
        simp only [lateB, decide_eq_true_eq] at hy ⊢
        omega
      have e1 : (y :: r).filter (fun x => !lateB n x) = [] := List.filter_eq_nil_iff.2 fun z hz => by
        rcases List.mem_cons.1 hz with rfl | hz
        · simp [hy]
        · simp [hr z hz]
      have e2 : (y :: r).filter (lateB n) = y :: r := List.filter_eq_self.2 fun z hz => by
        rcases List.mem_cons.1 hz with rfl | hz
        · exact hy
        · exact hr z hz
      rw [e1, e2, List.nil_append]
    · have hy2 : lateB n y = false := by simpa using hy
      rw [List.filter_cons_of_pos (by simp [hy2]), List.filter_cons_of_neg (by simp [hy2]), List.cons_append, ih h2]
theorem key_mem {l : List Ar} {K : List Ar} (h : l.map key = K) {x : Ar} (hx : x ∈ l) : key x ∈ K := by rw [← h]; exact List.mem_map.2 ⟨x, hx, rfl⟩
theorem notlate_tk {l L : List Ar} {n : Int} (h : l.map key = (L.map key).filter (fun x => !lateB n x)) {x : Ar} (hx : x ∈ l) : x.tk ≤ n := by
  have := (List.mem_filter.1 (key_mem h hx)).2
  have e : lateB n (key x) = lateB n x := rfl
  rw [e] at this
  simp [lateB] at this
  exact this
theorem late_tk {l L : List Ar} {n : Int} (h : l.map key = (L.map key).filter (lateB n)) {x : Ar} (hx : x ∈ l) : n < x.tk := by
  have := (List.mem_filter.1 (key_mem h hx)).2
  have e : lateB n (key x) = lateB n x := rfl
  rw [e] at this
  simp [lateB] at this
  exact this

set_option maxHeartbeats 4000000 in
theorem orders_walk (a0 : Option Addr) (len0 cap0 : Nat) (now : Int) (w : World) (h : ArgRow w a0 len0) (hlm : len0 ≤ maxLen) :
    Calls Try.prog 5 #[.slice a0 len0 cap0, .int .i64 now] w (RetW (.bool true) w) := by
  have HLT := Lib.hid (llater_any a0 len0 cap0 w h hlm)
  clear h hlm
  go_enter Try.func5, Try.ntmps5
  go_wp2_with fail
  refine HLT.out.mono ?_; rintro e w1 ⟨a, c, l, rfl, hL, hR, hb⟩
  have HL := Lib.hid hL
  have HR := Lib.hid hR
  have HB := Lib.hid hb
  have hm : min 8 len0 = l.length := hL.len.symm
  have hm2 : l.length ≤ 8 := by omega
  rw [hm]
  have hmi : min (8 : Int) (len0 : Int) = (l.length : Int) := by omega
  have HRW : Hid (∀ W, Below w1.heap.size w1 W → ∀ j, j < l.length → ∃ g o, a = some ⟨g, o, none⟩ ∧ (l.length : Int) ≤ c ∧ W.rangeAt g (o + j * 11) (l.getD j Ar.zero).cells) := by
    intro W hb j hj
    obtain ⟨g, o, h1, h2, h3, h4, h5⟩ := (hR.below hb).at (by omega)
    exact ⟨g, o, h1, by omega, h5 j hj⟩
  clear hL hR hb HLT hm
  go_upto_region 5 with (fail)
  go_loopw [6] (fun v6 wr => ∃ m : Nat, (m < l.length ∨ m = 0) ∧ v6 = .int .i64 ((m : Int) + 1) ∧ Hid (Below w1.heap.size w1 wr)) (fun v6 _ => 200 - (intOf v6).toNat)
  case atStart => exact ⟨0, Or.inr rfl, rfl, Below.refl _ _⟩
  case round =>
    obtain ⟨m, hk, rfl, HB1⟩ := hrel
    by_cases hlt : m + 1 < l.length
    · have hlt' : (m : Int) + 1 < (l.length : Int) := by omega
      have hlm' : (m : Int) < (l.length : Int) := by omega
      have hm0 : (0 : Int) ≤ (m : Int) + 1 := by omega
      have htn : ((m : Int) + 1).toNat = m + 1 := by omega
      have hwm : IntKind.i64.wrap ((m : Int) + 1 - 1) = (m : Int) := by rw [show (m : Int) + 1 - 1 = (m : Int) by omega]; exact IntWalk.i64_in _ (by omega)
      have hwm2 : IntKind.i64.wrap ((m : Int) + 1 + 1) = (m : Int) + 1 + 1 := IntWalk.i64_in _ (by omega)
      obtain ⟨g, o, rfl, hcap, hr1⟩ := HRW.out wr HB1.out (m + 1) hlt
      obtain ⟨g', o', he, _, hr0⟩ := HRW.out wr HB1.out m (by omega)
      simp only [Option.some.injEq, Addr.mk.injEq, and_true] at he
      obtain ⟨rfl, rfl⟩ := he
      have u0 : wr.cell? ⟨g, o + m * 11, none⟩ = some (.int .i64 (l.getD m Ar.zero).id) := hr0 0 _ (by simp [Ar.cells])
      have u9 : wr.cell? ⟨g, o + m * 11 + 9, none⟩ = some (.int .i64 (l.getD m Ar.zero).tk) := hr0 9 _ (by simp [Ar.cells])
      have v0 : wr.cell? ⟨g, o + (m + 1) * 11, none⟩ = some (.int .i64 (l.getD (m + 1) Ar.zero).id) := hr1 0 _ (by simp [Ar.cells])
      have v9 : wr.cell? ⟨g, o + (m + 1) * 11 + 9, none⟩ = some (.int .i64 (l.getD (m + 1) Ar.zero).tk) := hr1 9 _ (by simp [Ar.cells])
      have hord : lessB (l.getD m Ar.zero) (l.getD (m + 1) Ar.zero) = true := by
        rw [getD_get (show m < l.length by omega), getD_get hlt]
        exact List.pairwise_iff_getElem.1 HL.out.ord m (m + 1) (by omega) hlt (by omega)
      rw [lessB_iff] at hord
      clear hr0 hr1
      generalize (l.getD m Ar.zero).id = i0 at *
      generalize (l.getD m Ar.zero).tk = t0 at *
      generalize (l.getD (m + 1) Ar.zero).id = i1 at *
      generalize (l.getD (m + 1) Ar.zero).tk = t1 at *
      have hn1 : ¬ t1 < t0 := by omega
      rcases hord with hq | ⟨hq, hq2⟩
      · have hn2 : (t1 == t0) = false := beq_eq_false_iff_ne.2 (by omega)
        have hn3 : ¬ t1 = t0 := by omega
        clear hq
        go_upto_region 7 with (fail)
        go_quiet (fail)
        go_wp2_with fail
        go_roundw
        case rel => exact ⟨m + 1, Or.inl (by omega), by first | rfl | (congr 1), below_drewN HB1.out _⟩
        case measure => simp [intOf]; omega
      · subst hq
        have hn3 : ¬ i1 ≤ i0 := by omega
        go_upto_region 7 with (fail)
        go_quiet (fail)
        go_wp2_with fail
        go_roundw
        case rel => exact ⟨m + 1, Or.inl (by omega), by first | rfl | (congr 1), below_drewN HB1.out _⟩
        case measure => simp [intOf]; omega
    · have hge : ¬ ((m : Int) + 1 < (l.length : Int)) := by omega
      have HBw := Lib.hid (HB.out.trans (HB1.out.mono HB.out.size))
      have HL1 := Lib.hid (HL.out.below HB1.out)
      have HR1 := Lib.hid (HR.out.below HB1.out)
      clear hlt hk HB1 HB HL HR HRW
      go_wp2_with fail
      refine (round_some _ _ _ (by omega) (by omega)).mono ?_
      rintro e wq ⟨r, r0, r1, rfl, rfl⟩
      have hwr : IntKind.i64.wrap (r - 1) = r - 1 := IntWalk.i64_in _ (by omega)
      go_wp2_with fail
      generalize r - 1 = t at *
      refine (ready_any a l c t wr HR1.out HL1.out.mem (by omega)).mono ?_
      rintro e w3 ⟨a1, c1, l1, a2, c2, l2, rfl, hk1, hk2, hr1, hr2, hm1, hm2', hb⟩
      have HB3 := Lib.hid (HBw.out.trans (hb.mono HBw.out.size))
      have HL3 := Lib.hid (HL1.out.below hb)
      have HR3 := Lib.hid (HR1.out.below hb)
      have hsum : (l2 ++ l1).map key = l.map key := by
        rw [List.map_append, hk1, hk2]
        exact split_ord t (l.map key) ((ord_key l).2 HL1.out.ord)
      have hlen2 : (l2 ++ l1).length = l.length := by have := congrArg List.length hsum; simpa using this
      have hlen3 : l2.length + l1.length = l.length := by rw [← hlen2]; simp
      obtain ⟨a3, c3, w4, hrun1, how1, hb4⟩ := append_all w3 w3.heap.size none 0 [] a2 c2 l2 (World.ownsRow_nil _ _ _ _) hr2 (by simp) (by omega) (Nat.le_refl _)
      simp only [List.length_nil, Nat.zero_add, List.nil_append] at hrun1 how1
      obtain ⟨a5, c5, w5, hrun2, how2, hb5⟩ := append_all w4 w3.heap.size a3 c3 l2 a1 c1 l1 how1 (hr1.below hb4) (by omega) (by omega) hb4.size
      have hb35 : Below w3.heap.size w3 w5 := hb4.trans hb5
      have hr5 : ARow w5 a5 c5 (l2 ++ l1) := by
        rw [show l2.length + l1.length = (l2 ++ l1).length from by simp] at how2
        obtain ⟨a', c', he, _, hr, _⟩ := ARow.ofOwn how2
        simp only [Value.slice.injEq] at he
        obtain ⟨rfl, _, rfl⟩ := he
        exact hr
      have HSL : Hid (Calls Try.prog 13 #[.slice a5 (l2.length + l1.length) c5, .slice a l.length c] w5 (RetW (.bool true) w5)) := by
        have h := sameL_any a5 c5 (l2 ++ l1) a c l w5 hr5 (HR3.out.below hb35) (fun x hx => by
          rcases List.mem_append.1 hx with hx | hx
          · exact (hm2' x hx).below hb35
          · exact (hm1 x hx).below hb35) (fun x hx => (HL3.out.mem x hx).below hb35) hsum (by omega)
        rw [hlen2] at h
        rw [hlen3]
        exact h
      have HA1 := Lib.hid hrun1
      have HA2 := Lib.hid hrun2
      have HB5 : Hid (Below w.heap.size w w5) := HB3.out.trans (hb35.mono HB3.out.size)
      have HF2 : Hid (∀ W, Below w5.heap.size w5 W → l2.length = 0 ∨ ∃ n g o tk, l2.length = n + 1 ∧ a2 = some ⟨g, o, none⟩ ∧ ((n : Int) + 1) ≤ c2 ∧ tk ≤ t ∧ W.cell? ⟨g, o + n * 11 + 9, none⟩ = some (.int .i64 tk)) := by
        intro W hW
        rcases Nat.eq_zero_or_pos l2.length with h0 | h0
        · exact Or.inl h0
        · right
          obtain ⟨g, o, e1, e2, e3, e4, e5⟩ := hr2.at h0
          have hx := e5 (l2.length - 1) (by omega)
          rw [getD_get (show l2.length - 1 < l2.length by omega)] at hx
          refine ⟨l2.length - 1, g, o, (l2[l2.length - 1]'(by omega)).tk, by omega, e1, by omega, notlate_tk hk2 (List.getElem_mem _), ?_⟩
          have h9 := hx 9 _ (show _ = some (Value.int .i64 (l2[l2.length - 1]'(by omega)).tk) from by simp [Ar.cells])
          exact ((hW.cell (p := ⟨g, o + (l2.length - 1) * 11 + 9, none⟩) (Nat.lt_of_lt_of_le e2 hb35.size)).trans (hb35.cell (p := ⟨g, o + (l2.length - 1) * 11 + 9, none⟩) e2)).trans h9
      have HF1 : Hid (∀ W, Below w5.heap.size w5 W → l1.length = 0 ∨ ∃ g o tk, 0 < l1.length ∧ a1 = some ⟨g, o, none⟩ ∧ (l1.length : Int) ≤ c1 ∧ t < tk ∧ W.cell? ⟨g, o + 9, none⟩ = some (.int .i64 tk)) := by
        intro W hW
        rcases Nat.eq_zero_or_pos l1.length with h0 | h0
        · exact Or.inl h0
        · right
          obtain ⟨g, o, e1, e2, e3, e4, e5⟩ := hr1.at h0
          have hx := e5 0 h0
          rw [getD_get h0] at hx
          refine ⟨g, o, l1[0].tk, h0, e1, by omega, late_tk hk1 (List.getElem_mem _), ?_⟩
          have h9 := hx 9 _ (show _ = some (Value.int .i64 l1[0].tk) from by simp [Ar.cells])
          rw [Nat.zero_mul, Nat.add_zero] at h9
          exact ((hW.cell (p := ⟨g, o + 9, none⟩) (Nat.lt_of_lt_of_le e2 hb35.size)).trans (hb35.cell (p := ⟨g, o + 9, none⟩) e2)).trans h9
      have HLL : Hid (l2.length ≤ 8 ∧ l1.length ≤ 8) := ⟨by omega, by omega⟩
      clear hk1 hk2 hr1 hr2 hm1 hm2' hb hsum hlen2 hlen3 hrun1 hrun2 how1 how2 hb4 hb5 hb35 hr5 HBw HL1 HR1 HB3 HL3 HR3
      go_wp2_with (at_builtin; first | (refine Lib.wpList_append_run _ rfl _ _ _ _ rfl _ _ rfl rfl _ _ HA1.out ?_; clear HA1) | refine Lib.wpList_append_run _ rfl _ _ _ _ rfl _ _ rfl rfl _ _ HA2.out ?_)
      refine HSL.out.mono ?_
      rintro e w6 ⟨rfl, hb6⟩
      have HB6 := Lib.hid (HB5.out.trans (hb6.mono HB5.out.size))
      have hf2 := HF2.out w6 hb6
      have hf1 := HF1.out w6 hb6
      have hl12 := HLL.out
      clear hb6 HF1 HF2 HSL HA2 HB5
      generalize l2.length = n2 at *
      generalize l1.length = n1 at *
      rcases hf2 with rfl | ⟨n, g, o, tk, rfl, rfl, hc2, htk, hcell⟩
      · rcases hf1 with rfl | ⟨g1, o1, tk1, hn1, rfl, hc1, htk1, hcell1⟩
        · go_wp2_with fail
          refine (awake_any _).mono ?_
          rintro e w7 ⟨rfl, hb7⟩
          have HB7 := Lib.hid (HB6.out.trans (hb7.mono HB6.out.size))
          clear hb7
          go_wp2_with fail
          go_ret
          exact RetW.mk rfl HB7.out
        · have hn1' : (0 : Int) < (n1 : Int) := by omega
          have hz1 : ((n1 : Int) == 0) = false := beq_eq_false_iff_ne.2 (by omega)
          have hz2 : ¬ (n1 : Int) = 0 := by omega
          go_wp2_with fail
          refine (awake_any _).mono ?_
          rintro e w7 ⟨rfl, hb7⟩
          have HB7 := Lib.hid (HB6.out.trans (hb7.mono HB6.out.size))
          clear hb7
          go_wp2_with fail
          go_ret
          exact RetW.mk rfl HB7.out
      · have hz3 : (((n : Int) + 1) == 0) = false := beq_eq_false_iff_ne.2 (by omega)
        have hz4 : ¬ (n : Int) + 1 = 0 := by omega
        have hn0 : (0 : Int) ≤ (n : Int) := by omega
        have hlt : (n : Int) < (n : Int) + 1 := by omega
        have hwn : IntKind.i64.wrap ((n : Int) + 1 - 1) = (n : Int) := by rw [show (n : Int) + 1 - 1 = (n : Int) by omega]; exact IntWalk.i64_in _ (by omega)
        rcases hf1 with rfl | ⟨g1, o1, tk1, hn1, rfl, hc1, htk1, hcell1⟩
        · go_wp2_with fail
          refine (awake_any _).mono ?_
          rintro e w7 ⟨rfl, hb7⟩
          have HB7 := Lib.hid (HB6.out.trans (hb7.mono HB6.out.size))
          clear hb7
          go_wp2_with fail
          go_ret
          exact RetW.mk rfl HB7.out
        · have hn1' : (0 : Int) < (n1 : Int) := by omega
          have hz1 : ((n1 : Int) == 0) = false := beq_eq_false_iff_ne.2 (by omega)
          have hz2 : ¬ (n1 : Int) = 0 := by omega
          go_wp2_with fail
          refine (awake_any _).mono ?_
          rintro e w7 ⟨rfl, hb7⟩
          have HB7 := Lib.hid (HB6.out.trans (hb7.mono HB6.out.size))
          clear hb7
          go_wp2_with fail
          go_ret
          exact RetW.mk rfl HB7.out
end Go.Proofs.Ythfjlojikbgnfaa
