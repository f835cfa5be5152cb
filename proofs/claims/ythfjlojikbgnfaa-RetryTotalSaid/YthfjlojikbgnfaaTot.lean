/- The walk of RetryTotal. -/
import Derived.Test.YthfjlojikbgnfaaPol
import Derived.StillTailTactics
import Derived.Deep.RegionWith
import Derived.BigRegion
namespace Go.Proofs.Ythfjlojikbgnfaa
open Go.ChangeShapes Go.WideShapes Go.ChangeAt Go.RowKit

def totI (t k : Int) : Int := t * (2 ^ k.toNat - 1)
theorem tot_zero (t : Int) : totI t 0 = 0 := by simp [totI]
theorem tot_succ (t k : Int) (hk : 0 ≤ k) : totI t (k + 1) = totI t k + t * 2 ^ k.toNat := by
  unfold totI; rw [show (k + 1).toNat = k.toNat + 1 from by omega, Int.pow_succ]; rw [Int.mul_sub, Int.mul_sub, ← Int.mul_assoc]; omega
theorem tot_bd (t k : Int) (h0 : 0 ≤ t) (h1 : t ≤ 1000) (hk0 : 0 ≤ k) (hk : k ≤ 4) : 0 ≤ totI t k ∧ totI t k ≤ 15000 := by
  have : k = 0 ∨ k = 1 ∨ k = 2 ∨ k = 3 ∨ k = 4 := by omega
  rcases this with rfl | rfl | rfl | rfl | rfl <;> (simp [totI]; try omega)
theorem pow_bd (t k : Int) (h0 : 0 ≤ t) (h1 : t ≤ 1000) (hk0 : 0 ≤ k) (hk : k < 4) : 0 ≤ t * 2 ^ k.toNat ∧ t * 2 ^ k.toNat ≤ 8000 := by
  have : k = 0 ∨ k = 1 ∨ k = 2 ∨ k = 3 := by omega
  rcases this with rfl | rfl | rfl | rfl <;> (simp; omega)
theorem tot_0 (t : Int) : totI t 0 = 0 := by simp [totI]
theorem tot_1 (t : Int) : totI t 1 = t := by simp [totI]
theorem tot_2 (t : Int) : totI t 2 = t * 3 := by simp [totI]
theorem tot_3 (t : Int) : totI t 3 = t * 7 := by simp [totI]
theorem tot_4 (t : Int) : totI t 4 = t * 15 := by simp [totI]

set_option maxRecDepth 100000 in
set_option maxHeartbeats 4000000 in
theorem total_walk (a0 a1 : Int) (w : World) :
    Calls Try.prog 4 #[.int .i64 a0, .int .i64 a1] w (RetW (.bool true) w) := by
  go_enter Try.func4, Try.ntmps4
  go_wp2_with fail
  refine (round_some _ _ _ (by omega) (by omega)).mono ?_; rintro e w' ⟨M, hM0, hM1, rfl, rfl⟩
  have hM5 : M = 0 ∨ M = 1 ∨ M = 2 ∨ M = 3 ∨ M = 4 := by omega
  go_wp2_with fail
  refine (round_some _ _ _ (by omega) (by omega)).mono ?_; rintro e w' ⟨Wt, hW0, hW1, rfl, rfl⟩
  go_wp2_with fail
  refine (round_some _ _ _ (by omega) (by omega)).mono ?_; rintro e w' ⟨K, hK0, hK1, rfl, rfl⟩
  have hV : 0 ≤ M ∧ M ≤ 4 ∧ 0 ≤ Wt ∧ Wt ≤ 1000 := by omega
  have HV := Lib.hid hV
  clear hV
  have hK : K = 0 ∨ K = 1 := by omega
  rcases hK with rfl | rfl
  all_goals
    rcases hM5 with rfl | rfl | rfl | rfl | rfl
  all_goals
    go_wp2_with fail
  iterate 2
    · go_loopw [7, 8] (fun i s wr => ∃ k : Int, 0 ≤ k ∧ k ≤ 0 ∧ i = .int .i64 k ∧ s = .int .i64 (totI Wt k) ∧ Below w.heap.size w wr ∧ w.heap.size < wr.heap.size ∧ wr.cell? ⟨w.heap.size, 0, none⟩ = some (.int .i64 0) ∧ wr.cell? ⟨w.heap.size, 1, none⟩ = some (.int .i64 Wt)) (fun i _ _ => 0 - (intOf i).toNat)
      case atStart => exact ⟨0, by omega, by omega, rfl, by rw [tot_zero], ((Below.refl _ _).alloc (by simp) _).alloc (by simp) _, by simp; omega, by simp, by simp⟩
      case round =>
        obtain ⟨k, hk0, hk, rfl, rfl, hb, hz, hc0, hc1⟩ := hrel
        have tb := tot_bd Wt k (by omega) (by omega) (by omega) (by omega)
        by_cases hlt : k < 0
        · exfalso; omega
        · clear tb
          obtain rfl : k = 0 := by omega
          rw [tot_0]
          go_wp2_with fail
          refine (again_at (again_over (by omega) (by omega) (by omega)) _).mono ?_; rintro e w' ⟨rfl, hb1⟩
          obtain ⟨hc, hf⟩ := bcell hb1
          have hy := hb1.size
          go_wp2_with fail
          have d0 : w'.cell? ⟨w.heap.size, 0, none⟩ = some (.int .i64 0) := by simp [hz, hc, hc0]
          have d1 : w'.cell? ⟨w.heap.size, 1, none⟩ = some (.int .i64 Wt) := by simp [hz, hc, hc1]
          have hb2 : Below w.heap.size w w' := hb.trans (hb1.mono (by omega))
          clear hc hf hc0 hc1 hb hb1
          go_still_tail 15, (by kernel_rfl)
          change wpList _ _ _ _ _ w'.drew
          have hb3 : Below w.heap.size w w'.drew := hb2.drew
          generalize w'.drew = w2 at hb3 ⊢
          clear hb2 hy d0 d1
          have hq : IntKind.i64.wrap (Wt * IntKind.i64.wrap (IntKind.i64.wrap 1 - 1)) = 0 := by
            rw [IntWalk.i64_in 1 (by omega), IntWalk.i64_in (1 - 1) (by omega), IntWalk.i64_in _ (by omega)]; omega
          simp only [hq, beq_self_eq_true]
          clear hq
          go_wp2_with (go_at_call 10; refine (awake_any _).mono ?_; rintro e w'' ⟨rfl, hb4⟩)
          go_ret
          exact RetW.mk rfl (hb3.trans (hb4.mono hb3.size))
    · go_loopw [7, 8] (fun i s wr => ∃ k : Int, 0 ≤ k ∧ k ≤ 1 ∧ i = .int .i64 k ∧ s = .int .i64 (totI Wt k) ∧ Below w.heap.size w wr ∧ w.heap.size < wr.heap.size ∧ wr.cell? ⟨w.heap.size, 0, none⟩ = some (.int .i64 1) ∧ wr.cell? ⟨w.heap.size, 1, none⟩ = some (.int .i64 Wt)) (fun i _ _ => 1 - (intOf i).toNat)
      case atStart => exact ⟨0, by omega, by omega, rfl, by rw [tot_zero], ((Below.refl _ _).alloc (by simp) _).alloc (by simp) _, by simp; omega, by simp, by simp⟩
      case round =>
        obtain ⟨k, hk0, hk, rfl, rfl, hb, hz, hc0, hc1⟩ := hrel
        have tb := tot_bd Wt k (by omega) (by omega) (by omega) (by omega)
        by_cases hlt : k < 1
        · have pb := pow_bd Wt k (by omega) (by omega) (by omega) (by omega)
          have HT : Hid (totI Wt (k + 1) = totI Wt k + Wt * 2 ^ k.toNat) := tot_succ Wt k hk0
          go_wp2_with fail
          refine (again_at (again_yes HV.out (by omega) (by omega) (by omega)) _).mono ?_; rintro e w' ⟨rfl, hb1⟩
          obtain ⟨hc, hf⟩ := bcell hb1
          have hy := hb1.size
          go_wp2_with fail
          go_roundw
          case rel => exact ⟨k + 1, by omega, by omega, by go_num, by rw [HT.out], hb.trans (hb1.mono (by omega)), by omega, by simp [hz, hc, hc0], by simp [hz, hc, hc1]⟩
          case measure => simp [intOf]; omega
        · clear tb
          obtain rfl : k = 1 := by omega
          rw [tot_1]
          go_wp2_with fail
          refine (again_at (again_over (by omega) (by omega) (by omega)) _).mono ?_; rintro e w' ⟨rfl, hb1⟩
          obtain ⟨hc, hf⟩ := bcell hb1
          have hy := hb1.size
          go_wp2_with fail
          have d0 : w'.cell? ⟨w.heap.size, 0, none⟩ = some (.int .i64 1) := by simp [hz, hc, hc0]
          have d1 : w'.cell? ⟨w.heap.size, 1, none⟩ = some (.int .i64 Wt) := by simp [hz, hc, hc1]
          have hb2 : Below w.heap.size w w' := hb.trans (hb1.mono (by omega))
          clear hc hf hc0 hc1 hb hb1
          go_still_tail 15, (by kernel_rfl)
          change wpList _ _ _ _ _ w'.drew
          have hb3 : Below w.heap.size w w'.drew := hb2.drew
          generalize w'.drew = w2 at hb3 ⊢
          clear hb2 hy d0 d1
          have hq : IntKind.i64.wrap (Wt * IntKind.i64.wrap (IntKind.i64.wrap 2 - 1)) = Wt := by
            rw [IntWalk.i64_in 2 (by omega), IntWalk.i64_in (2 - 1) (by omega), IntWalk.i64_in _ (by omega)]; omega
          simp only [hq, beq_self_eq_true]
          clear hq
          go_wp2_with (go_at_call 10; refine (awake_any _).mono ?_; rintro e w'' ⟨rfl, hb4⟩)
          go_ret
          exact RetW.mk rfl (hb3.trans (hb4.mono hb3.size))
    · go_loopw [7, 8] (fun i s wr => ∃ k : Int, 0 ≤ k ∧ k ≤ 2 ∧ i = .int .i64 k ∧ s = .int .i64 (totI Wt k) ∧ Below w.heap.size w wr ∧ w.heap.size < wr.heap.size ∧ wr.cell? ⟨w.heap.size, 0, none⟩ = some (.int .i64 2) ∧ wr.cell? ⟨w.heap.size, 1, none⟩ = some (.int .i64 Wt)) (fun i _ _ => 2 - (intOf i).toNat)
      case atStart => exact ⟨0, by omega, by omega, rfl, by rw [tot_zero], ((Below.refl _ _).alloc (by simp) _).alloc (by simp) _, by simp; omega, by simp, by simp⟩
      case round =>
        obtain ⟨k, hk0, hk, rfl, rfl, hb, hz, hc0, hc1⟩ := hrel
        have tb := tot_bd Wt k (by omega) (by omega) (by omega) (by omega)
        by_cases hlt : k < 2
        · have pb := pow_bd Wt k (by omega) (by omega) (by omega) (by omega)
          have HT : Hid (totI Wt (k + 1) = totI Wt k + Wt * 2 ^ k.toNat) := tot_succ Wt k hk0
          go_wp2_with fail
          refine (again_at (again_yes HV.out (by omega) (by omega) (by omega)) _).mono ?_; rintro e w' ⟨rfl, hb1⟩
          obtain ⟨hc, hf⟩ := bcell hb1
          have hy := hb1.size
          go_wp2_with fail
          go_roundw
          case rel => exact ⟨k + 1, by omega, by omega, by go_num, by rw [HT.out], hb.trans (hb1.mono (by omega)), by omega, by simp [hz, hc, hc0], by simp [hz, hc, hc1]⟩
          case measure => simp [intOf]; omega
        · clear tb
          obtain rfl : k = 2 := by omega
          rw [tot_2]
          go_wp2_with fail
          refine (again_at (again_over (by omega) (by omega) (by omega)) _).mono ?_; rintro e w' ⟨rfl, hb1⟩
          obtain ⟨hc, hf⟩ := bcell hb1
          have hy := hb1.size
          go_wp2_with fail
          have d0 : w'.cell? ⟨w.heap.size, 0, none⟩ = some (.int .i64 2) := by simp [hz, hc, hc0]
          have d1 : w'.cell? ⟨w.heap.size, 1, none⟩ = some (.int .i64 Wt) := by simp [hz, hc, hc1]
          have hb2 : Below w.heap.size w w' := hb.trans (hb1.mono (by omega))
          clear hc hf hc0 hc1 hb hb1
          go_still_tail 15, (by kernel_rfl)
          change wpList _ _ _ _ _ w'.drew
          have hb3 : Below w.heap.size w w'.drew := hb2.drew
          generalize w'.drew = w2 at hb3 ⊢
          clear hb2 hy d0 d1
          go_wp2_with (go_at_call 10; refine (awake_any _).mono ?_; rintro e w'' ⟨rfl, hb4⟩)
          go_ret
          exact RetW.mk rfl (hb3.trans (hb4.mono hb3.size))
    · go_loopw [7, 8] (fun i s wr => ∃ k : Int, 0 ≤ k ∧ k ≤ 3 ∧ i = .int .i64 k ∧ s = .int .i64 (totI Wt k) ∧ Below w.heap.size w wr ∧ w.heap.size < wr.heap.size ∧ wr.cell? ⟨w.heap.size, 0, none⟩ = some (.int .i64 3) ∧ wr.cell? ⟨w.heap.size, 1, none⟩ = some (.int .i64 Wt)) (fun i _ _ => 3 - (intOf i).toNat)
      case atStart => exact ⟨0, by omega, by omega, rfl, by rw [tot_zero], ((Below.refl _ _).alloc (by simp) _).alloc (by simp) _, by simp; omega, by simp, by simp⟩
      case round =>
        obtain ⟨k, hk0, hk, rfl, rfl, hb, hz, hc0, hc1⟩ := hrel
        have tb := tot_bd Wt k (by omega) (by omega) (by omega) (by omega)
        by_cases hlt : k < 3
        · have pb := pow_bd Wt k (by omega) (by omega) (by omega) (by omega)
          have HT : Hid (totI Wt (k + 1) = totI Wt k + Wt * 2 ^ k.toNat) := tot_succ Wt k hk0
          go_wp2_with fail
          refine (again_at (again_yes HV.out (by omega) (by omega) (by omega)) _).mono ?_; rintro e w' ⟨rfl, hb1⟩
          obtain ⟨hc, hf⟩ := bcell hb1
          have hy := hb1.size
          go_wp2_with fail
          go_roundw
          case rel => exact ⟨k + 1, by omega, by omega, by go_num, by rw [HT.out], hb.trans (hb1.mono (by omega)), by omega, by simp [hz, hc, hc0], by simp [hz, hc, hc1]⟩
          case measure => simp [intOf]; omega
        · clear tb
          obtain rfl : k = 3 := by omega
          rw [tot_3]
          go_wp2_with fail
          refine (again_at (again_over (by omega) (by omega) (by omega)) _).mono ?_; rintro e w' ⟨rfl, hb1⟩
          obtain ⟨hc, hf⟩ := bcell hb1
          have hy := hb1.size
          go_wp2_with fail
          have d0 : w'.cell? ⟨w.heap.size, 0, none⟩ = some (.int .i64 3) := by simp [hz, hc, hc0]
          have d1 : w'.cell? ⟨w.heap.size, 1, none⟩ = some (.int .i64 Wt) := by simp [hz, hc, hc1]
          have hb2 : Below w.heap.size w w' := hb.trans (hb1.mono (by omega))
          clear hc hf hc0 hc1 hb hb1
          go_still_tail 15, (by kernel_rfl)
          change wpList _ _ _ _ _ w'.drew
          have hb3 : Below w.heap.size w w'.drew := hb2.drew
          generalize w'.drew = w2 at hb3 ⊢
          clear hb2 hy d0 d1
          go_wp2_with (go_at_call 10; refine (awake_any _).mono ?_; rintro e w'' ⟨rfl, hb4⟩)
          go_ret
          exact RetW.mk rfl (hb3.trans (hb4.mono hb3.size))
    · go_loopw [7, 8] (fun i s wr => ∃ k : Int, 0 ≤ k ∧ k ≤ 4 ∧ i = .int .i64 k ∧ s = .int .i64 (totI Wt k) ∧ Below w.heap.size w wr ∧ w.heap.size < wr.heap.size ∧ wr.cell? ⟨w.heap.size, 0, none⟩ = some (.int .i64 4) ∧ wr.cell? ⟨w.heap.size, 1, none⟩ = some (.int .i64 Wt)) (fun i _ _ => 4 - (intOf i).toNat)
      case atStart => exact ⟨0, by omega, by omega, rfl, by rw [tot_zero], ((Below.refl _ _).alloc (by simp) _).alloc (by simp) _, by simp; omega, by simp, by simp⟩
      case round =>
        obtain ⟨k, hk0, hk, rfl, rfl, hb, hz, hc0, hc1⟩ := hrel
        have tb := tot_bd Wt k (by omega) (by omega) (by omega) (by omega)
        by_cases hlt : k < 4
        · have pb := pow_bd Wt k (by omega) (by omega) (by omega) (by omega)
          have HT : Hid (totI Wt (k + 1) = totI Wt k + Wt * 2 ^ k.toNat) := tot_succ Wt k hk0
          go_wp2_with fail
          refine (again_at (again_yes HV.out (by omega) (by omega) (by omega)) _).mono ?_; rintro e w' ⟨rfl, hb1⟩
          obtain ⟨hc, hf⟩ := bcell hb1
          have hy := hb1.size
          go_wp2_with fail
          go_roundw
          case rel => exact ⟨k + 1, by omega, by omega, by go_num, by rw [HT.out], hb.trans (hb1.mono (by omega)), by omega, by simp [hz, hc, hc0], by simp [hz, hc, hc1]⟩
          case measure => simp [intOf]; omega
        · clear tb
          obtain rfl : k = 4 := by omega
          rw [tot_4]
          go_wp2_with fail
          refine (again_at (again_over (by omega) (by omega) (by omega)) _).mono ?_; rintro e w' ⟨rfl, hb1⟩
          obtain ⟨hc, hf⟩ := bcell hb1
          have hy := hb1.size
          go_wp2_with fail
          have d0 : w'.cell? ⟨w.heap.size, 0, none⟩ = some (.int .i64 4) := by simp [hz, hc, hc0]
          have d1 : w'.cell? ⟨w.heap.size, 1, none⟩ = some (.int .i64 Wt) := by simp [hz, hc, hc1]
          have hb2 : Below w.heap.size w w' := hb.trans (hb1.mono (by omega))
          clear hc hf hc0 hc1 hb hb1
          go_still_tail 15, (by kernel_rfl)
          change wpList _ _ _ _ _ w'.drew
          have hb3 : Below w.heap.size w w'.drew := hb2.drew
          generalize w'.drew = w2 at hb3 ⊢
          clear hb2 hy d0 d1
          go_wp2_with (go_at_call 10; refine (awake_any _).mono ?_; rintro e w'' ⟨rfl, hb4⟩)
          go_ret
          exact RetW.mk rfl (hb3.trans (hb4.mono hb3.size))
end Go.Proofs.Ythfjlojikbgnfaa
