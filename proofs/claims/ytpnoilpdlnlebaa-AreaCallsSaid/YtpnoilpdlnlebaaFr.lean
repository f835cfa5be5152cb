/- Finding an area as the document has it. -/
import Derived.Test.YtpnoilpdlnlebaaSm
namespace Go.Proofs.Ytpnoilpdlnlebaa
open Go.ChangeShapes Go.WideShapes Go.ChangeAt Go.RowKit

set_option maxHeartbeats 4000000 in
theorem findR_any (B : Nat) (a : Option Addr) (l : List Ar) (cap : Nat) (p : Int) (w : World) (h : ARow B a cap l w) (hl : l.length ≤ 100) :
    Calls Try.prog 15 #[.slice a l.length cap, .int .i64 p] w (RetW (.tuple #[arVal (optA (findV l p)), .bool (findV l p).isSome]) w) := by
  have HA : Hid (∀ W, Below w.heap.size w W → ∀ j, j < l.length → ∃ g, a = some ⟨g, 0, none⟩ ∧ g < W.heap.size ∧ (l.length : Int) ≤ cap ∧ Cel W g (j * 5) (l.getD j Ar.zero)) := by
    intro W hb j hj
    obtain ⟨g, h1, h2, h3, h4, h5, h6⟩ := (h.below hb).at (by omega)
    exact ⟨g, h1, h3, by omega, h6 j hj⟩
  have HC : Hid (∀ W, Below w.heap.size w W → Calls Try.prog 21 #[.slice a l.length cap] W (RetW (.bool (checkV l)) W)) := fun W hb => checkR_any B a l cap W (h.below hb) hl
  have HR : Hid (checkV l = true → ∀ j, j < l.length → 0 ≤ (l.getD j Ar.zero).st ∧ 1 ≤ (l.getD j Ar.zero).cn ∧ (l.getD j Ar.zero).st + (l.getD j Ar.zero).cn ≤ 64) := fun hc j hj => by
    have := rightB_iff.1 (check_right hc j hj).1
    exact ⟨this.1, this.2.1, this.2.2.1⟩
  have HM : Hid (checkV l = true → (∀ j, j < l.length → inB p (l.getD j Ar.zero) = false) → findV l p = none) := fun hc hm => by unfold findV; rw [if_pos hc]; exact find_miss hm
  have HH : Hid (checkV l = true → ∀ k, k < l.length → (∀ j, j < k → inB p (l.getD j Ar.zero) = false) → inB p (l.getD k Ar.zero) = true → findV l p = some (l.getD k Ar.zero)) := fun hc k hk hm hi => by unfold findV; rw [if_pos hc]; exact find_hit hk hm hi
  have HN : Hid (checkV l = false → findV l p = none) := fun hc => by unfold findV; rw [hc]; rfl
  clear h
  go_enter Try.func15, Try.ntmps15
  go_wp2_with fail
  have hz := Blk.new w 0 0 0 0 false
  have HB : Hid (Below w.heap.size w (w.alloc (Obj.cells #[Value.int IntKind.i64 0, Value.int IntKind.i64 0, Value.int IntKind.i64 0, Value.int IntKind.i64 0, Value.bool false] 30))) := (Below.refl _ w).alloc (Nat.le_refl _) _
  generalize w.alloc (Obj.cells #[Value.int IntKind.i64 0, Value.int IntKind.i64 0, Value.int IntKind.i64 0, Value.int IntKind.i64 0, Value.bool false] 30) = w1 at *
  refine (HC.out _ HB.out).mono ?_; rintro e w2 ⟨rfl, hb⟩
  replace hz := hz.below hb
  replace HB := Lib.hid (HB.out.trans (hb.mono HB.out.size))
  have HZ := Lib.hid hz
  clear hb hz HC
  cases hcv : checkV l with
  | false =>
    have hv := HN.out hcv
    have z0 := HZ.out.c0; have z1 := HZ.out.c1; have z2 := HZ.out.c2; have z3 := HZ.out.c3; have z4 := HZ.out.c4
    have y0 := HZ.out.f 0 (by omega); have y1 := HZ.out.f 1 (by omega); have y2 := HZ.out.f 2 (by omega); have y3 := HZ.out.f 3 (by omega); have y4 := HZ.out.f 4 (by omega)
    simp only at z0 z1 z2 z3 z4
    go_wp2_with fail
    have HD := HZ.out.put 0 0 0 0 false
    have HBD := HB.out.trans (put5w_below (B := w.heap.size) w2 w.heap.size 0 0 0 0 false (Nat.le_refl _))
    unfold put5w at HD HBD
    generalize (((((w2.setCell { block := w.heap.size, off := 0 } (Value.int IntKind.i64 0)).setCell { block := w.heap.size, off := 1 } (Value.int IntKind.i64 0)).setCell { block := w.heap.size, off := 2 } (Value.int IntKind.i64 0)).setCell { block := w.heap.size, off := 3 } (Value.int IntKind.i64 0)).setCell { block := w.heap.size, off := 4 } (Value.bool false)) = W9 at *
    have d0 := HD.c0; have d1 := HD.c1; have d2 := HD.c2; have d3 := HD.c3; have d4 := HD.c4
    simp only at d0 d1 d2 d3 d4
    refine bodyPost_ret (v := .tuple #[.agg #[.int .i64 0, .int .i64 0, .int .i64 0, .int .i64 0, .bool false], .bool false]) (by simp [results, Try.results15, go_sem, d0, d1, d2, d3, d4]) rfl ⟨by rw [hv]; rfl, HBD⟩
  | true =>
    have HR2 := Lib.hid (HR.out hcv); have HM2 := Lib.hid (HM.out hcv); have HH2 := Lib.hid (HH.out hcv)
    clear HR HM HH HN hcv
    go_wp2_with fail
    go_loopw [6] (fun v6 wr => ∃ k : Nat, k ≤ l.length ∧ v6 = .int .i64 k ∧ Hid (Below w.heap.size w wr) ∧ Hid (Blk wr w.heap.size ⟨0, 0, 0, 0, false⟩) ∧ Hid (∀ j, j < k → inB p (l.getD j Ar.zero) = false)) (fun v6 _ => 200 - (intOf v6).toNat)
    case atStart => exact ⟨0, Nat.zero_le _, rfl, HB, HZ, fun j hj => absurd hj (Nat.not_lt_zero _)⟩
    case round =>
      clear HB HZ
      obtain ⟨k, hk, rfl, HB, HZ, HF⟩ := hrel
      by_cases hlt : k < l.length
      · have hlt' : (k : Int) < (l.length : Int) := by omega
        obtain ⟨g, rfl, hg, hcap, hcel⟩ := HA.out _ HB.out k hlt
        obtain ⟨e1, e2, e3⟩ := HR2.out k hlt
        have hh := HH2.out k hlt HF.out
        have hnext : inB p (l.getD k Ar.zero) = false → ∀ j, j < k + 1 → inB p (l.getD j Ar.zero) = false := fun h j hj => by
          by_cases e : j = k
          · rw [e]; exact h
          · exact HF.out j (by omega)
        have HNX := Lib.hid hnext
        have HHH := Lib.hid hh
        clear hh hnext HA HR2 HM2 HH2 HF
        generalize l.getD k Ar.zero = e at *
        obtain ⟨s, c, f, q, wb⟩ := e
        simp only at e1 e2 e3
        obtain ⟨k0, k1, k2, k3, k4⟩ := hcel
        simp only at k0 k1 k2 k3 k4
        have hin : inB p ⟨s, c, f, q, wb⟩ = decide (s ≤ p ∧ p < s + c) := rfl
        rw [hin] at HNX HHH
        clear hin
        have hw1 : IntKind.i64.wrap (s + c) = s + c := IntWalk.i64_in _ (by omega)
        have HBd := Lib.hid HB.out.drew
        by_cases hsp : s ≤ p
        · by_cases hpe : p < s + c
          · have hv := HHH.out (decide_eq_true ⟨hsp, hpe⟩)
            have HV := Lib.hid hv
            clear hv HNX HHH
            go_wp2_with fail
            go_quiet (fail)
            replace HB := Lib.hid (below_drewN HB.out nq)
            replace HZ := Lib.hid (HZ.out.below (below_drewN (Below.refl _ _) nq))
            have k0' : (wr.drewN nq).cell? ⟨g, k * 5, none⟩ = some (.int .i64 s) := k0
            have k1' : (wr.drewN nq).cell? ⟨g, k * 5 + 1, none⟩ = some (.int .i64 c) := k1
            have k2' : (wr.drewN nq).cell? ⟨g, k * 5 + 2, none⟩ = some (.int .i64 f) := k2
            have k3' : (wr.drewN nq).cell? ⟨g, k * 5 + 3, none⟩ = some (.int .i64 q) := k3
            have k4' : (wr.drewN nq).cell? ⟨g, k * 5 + 4, none⟩ = some (.bool wb) := k4
            clear k0 k1 k2 k3 k4 HBd
            generalize wr.drewN nq = w4 at *
            have z0 := HZ.out.c0; have z1 := HZ.out.c1; have z2 := HZ.out.c2; have z3 := HZ.out.c3; have z4 := HZ.out.c4
            have y0 := HZ.out.f 0 (by omega); have y1 := HZ.out.f 1 (by omega); have y2 := HZ.out.f 2 (by omega); have y3 := HZ.out.f 3 (by omega); have y4 := HZ.out.f 4 (by omega)
            simp only at z0 z1 z2 z3 z4
            go_wp2_with fail
            have HD := HZ.out.put s c f q wb
            have HBD := HB.out.trans (put5w_below (B := w.heap.size) w4 w.heap.size s c f q wb (Nat.le_refl _))
            unfold put5w at HD HBD
            generalize (((((w4.setCell { block := w.heap.size, off := 0 } (Value.int IntKind.i64 s)).setCell { block := w.heap.size, off := 1 } (Value.int IntKind.i64 c)).setCell { block := w.heap.size, off := 2 } (Value.int IntKind.i64 f)).setCell { block := w.heap.size, off := 3 } (Value.int IntKind.i64 q)).setCell { block := w.heap.size, off := 4 } (Value.bool wb)) = W9 at *
            have d0 := HD.c0; have d1 := HD.c1; have d2 := HD.c2; have d3 := HD.c3; have d4 := HD.c4
            simp only at d0 d1 d2 d3 d4
            refine bodyPost_ret (v := .tuple #[.agg #[.int .i64 s, .int .i64 c, .int .i64 f, .int .i64 q, .bool wb], .bool true]) (by simp [results, Try.results15, go_sem, d0, d1, d2, d3, d4]) rfl ⟨by rw [HV.out]; rfl, HBD⟩
          · have HN2 := Lib.hid (HNX.out (decide_eq_false (by omega)))
            have hpe2 : s + c ≤ p := by omega
            clear HNX HHH
            go_wp2_with fail
            go_quiet (fail)
            go_wp2_with fail
            go_roundw
            case rel => exact ⟨k + 1, by omega, by go_num, below_drewN HB.out nq, HZ.out.below (below_drewN (Below.refl _ _) nq), HN2⟩
            case measure => simp [intOf]; omega
        · have HN2 := Lib.hid (HNX.out (decide_eq_false (by omega)))
          have hsp2 : p < s := by omega
          have hsp3 : decide (s ≤ p) = false := decide_eq_false hsp
          clear HNX HHH
          go_wp2_with fail
          go_quiet (fail)
          go_wp2_with fail
          go_roundw
          case rel => exact ⟨k + 1, by omega, by go_num, below_drewN HB.out nq, HZ.out.below (below_drewN (Below.refl _ _) nq), HN2⟩
          case measure => simp [intOf]; omega
      · obtain rfl : k = l.length := by omega
        have hv := HM2.out HF.out
        have z0 := HZ.out.c0; have z1 := HZ.out.c1; have z2 := HZ.out.c2; have z3 := HZ.out.c3; have z4 := HZ.out.c4
        have y0 := HZ.out.f 0 (by omega); have y1 := HZ.out.f 1 (by omega); have y2 := HZ.out.f 2 (by omega); have y3 := HZ.out.f 3 (by omega); have y4 := HZ.out.f 4 (by omega)
        simp only at z0 z1 z2 z3 z4
        go_wp2_with fail
        have HD := HZ.out.put 0 0 0 0 false
        have HBD := HB.out.trans (put5w_below (B := w.heap.size) wr w.heap.size 0 0 0 0 false (Nat.le_refl _))
        unfold put5w at HD HBD
        generalize (((((wr.setCell { block := w.heap.size, off := 0 } (Value.int IntKind.i64 0)).setCell { block := w.heap.size, off := 1 } (Value.int IntKind.i64 0)).setCell { block := w.heap.size, off := 2 } (Value.int IntKind.i64 0)).setCell { block := w.heap.size, off := 3 } (Value.int IntKind.i64 0)).setCell { block := w.heap.size, off := 4 } (Value.bool false)) = W9 at *
        have d0 := HD.c0; have d1 := HD.c1; have d2 := HD.c2; have d3 := HD.c3; have d4 := HD.c4
        simp only at d0 d1 d2 d3 d4
        refine bodyPost_ret (v := .tuple #[.agg #[.int .i64 0, .int .i64 0, .int .i64 0, .int .i64 0, .bool false], .bool false]) (by simp [results, Try.results15, go_sem, d0, d1, d2, d3, d4]) rfl ⟨by rw [hv]; rfl, HBD⟩
end Go.Proofs.Ytpnoilpdlnlebaa
