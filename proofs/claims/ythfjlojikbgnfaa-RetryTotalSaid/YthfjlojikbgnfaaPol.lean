/- The walk of RetryPolicies. -/
import Derived.Test.YthfjlojikbgnfaaBase
namespace Go.Proofs.Ythfjlojikbgnfaa
open Go.ChangeShapes Go.WideShapes Go.ChangeAt Go.RowKit

theorem again_at {m t e n a : Int} {b : Bool} (h : againS m t e n = (a, b)) (w : World) :
    Calls Try.prog 9 #[.agg #[.int .i64 m, .int .i64 t], .int .i64 e, .int .i64 n] w (RetW (.tuple #[.int .i64 a, .bool b]) w) := by
  have := again_any m t e n w
  rw [h] at this
  exact this
theorem again_no {m t e n : Int} (h : e = 10 ∨ e = 13 ∨ e = 0) : againS m t e n = (0, false) := by
  unfold againS
  repeat' split
  all_goals first | rfl | (exfalso; omega)
theorem validB_mk {m t : Int} (h : 0 ≤ m ∧ m ≤ 4 ∧ 0 ≤ t ∧ t ≤ 1000) : validB m t = true := by
  unfold validB; simp [h]
theorem again_reset {m t n : Int} (h : 0 ≤ m ∧ m ≤ 4 ∧ 0 ≤ t ∧ t ≤ 1000) (hn : 0 ≤ n) : againS m t 51 n = (0, true) := by
  unfold againS
  rw [if_pos ⟨validB_mk h, hn⟩, if_pos rfl]
theorem again_yes {m t e n : Int} (h : 0 ≤ m ∧ m ≤ 4 ∧ 0 ≤ t ∧ t ≤ 1000) (hn : 0 ≤ n) (he : e = 50 ∨ e = 11) (hm : n < m) : againS m t e n = (t * 2 ^ n.toNat, true) := by
  unfold againS
  rw [if_pos ⟨validB_mk h, hn⟩, if_neg (by omega), if_pos ⟨he, hm⟩]
theorem again_over {m t e n : Int} (hn : 0 ≤ n) (he : e = 50 ∨ e = 11) (hm : m ≤ n) : againS m t e n = (0, false) := by
  unfold againS
  repeat' split
  all_goals first | rfl | (exfalso; omega)

theorem again_twice {m t e n : Int} (h : 0 ≤ m ∧ m ≤ 4 ∧ 0 ≤ t ∧ t ≤ 1000) (hn : 0 ≤ n) (he : e = 50 ∨ e = 11) (hm : n < m) :
    ∃ x : Int, 0 ≤ x ∧ x ≤ 16000 ∧ againS m t e n = (x, true) ∧ (n + 1 < m → againS m t e (n + 1) = (2 * x, true)) := by
  refine ⟨t * 2 ^ n.toNat, ?_, ?_, again_yes h hn he hm, fun h2 => ?_⟩
  · exact Int.mul_nonneg (by omega) (Int.pow_nonneg (by omega))
  · obtain ⟨k, rfl⟩ := Int.eq_ofNat_of_zero_le hn
    have hk : k = 0 ∨ k = 1 ∨ k = 2 ∨ k = 3 := by omega
    rcases hk with rfl | rfl | rfl | rfl <;> (simp; omega)
  · rw [again_yes h (by omega) he h2]
    obtain ⟨k, rfl⟩ := Int.eq_ofNat_of_zero_le hn
    rw [show ((k : Int) + 1).toNat = k + 1 from by omega, Int.toNat_natCast, Int.pow_succ]
    congr 1
    rw [← Int.mul_assoc, Int.mul_comm]

set_option maxHeartbeats 1000000 in
theorem policies_walk (a0 a1 a2 : Int) (w : World) :
    Calls Try.prog 3 #[.int .i64 a0, .int .i64 a1, .int .i64 a2] w (RetW (.bool true) w) := by
  go_enter Try.func3, Try.ntmps3
  go_wp2_with fail
  refine (round_some _ _ _ (by omega) (by omega)).mono ?_; rintro e w' ⟨M, hM0, hM1, rfl, rfl⟩
  go_wp2_with fail
  refine (round_some _ _ _ (by omega) (by omega)).mono ?_; rintro e w' ⟨Wt, hW0, hW1, rfl, rfl⟩
  go_wp2_with fail
  refine (round_some _ _ _ (by omega) (by omega)).mono ?_; rintro e w' ⟨T, hT0, hT1, rfl, rfl⟩
  go_wp2_with fail
  refine (round_some _ _ _ (by omega) (by omega)).mono ?_; rintro e w' ⟨K, hK0, hK1, rfl, rfl⟩
  have hV : 0 ≤ M ∧ M ≤ 4 ∧ 0 ≤ Wt ∧ Wt ≤ 1000 := by omega
  have HV := Lib.hid hV
  clear hV
  have hK : (K = 0 ∨ K = 4 ∨ K = 5) ∨ K = 3 ∨ K = 1 ∨ K = 2 := by omega
  rcases hK with (rfl | rfl | rfl) | rfl | hK
  iterate 3
    · skip
      go_wp2_with fail
      refine (again_at (again_no (by omega)) _).mono ?_; rintro e w' ⟨rfl, hb1⟩
      obtain ⟨hc1, hf1⟩ := bcell hb1
      have hy1 : w.heap.size + 2 ≤ w'.heap.size := bnext (B := w.heap.size + 2) hb1 (by first | assumption | simp)
      have hl1 : w.heap.size < w'.heap.size := by omega
      go_wp2_with fail
      refine (again_at (again_no (by omega)) _).mono ?_; rintro e w' ⟨rfl, hb2⟩
      obtain ⟨hc2, hf2⟩ := bcell hb2
      have hy2 : w.heap.size + 2 ≤ w'.heap.size := bnext (B := w.heap.size + 2) hb2 (by first | assumption | simp)
      have hl2 : w.heap.size < w'.heap.size := by omega
      go_wp2_with fail
      refine (awake_any _).mono ?_; rintro e w' ⟨rfl, hb3⟩
      obtain ⟨hc3, hf3⟩ := bcell hb3
      have hy3 : w.heap.size + 2 ≤ w'.heap.size := bnext (B := w.heap.size + 2) hb3 (by first | assumption | simp)
      have hl3 : w.heap.size < w'.heap.size := by omega
      go_wp2_with fail
      go_ret
      refine RetW.mk (by first | rfl | (simp; omega)) ?_
      repeat (first | exact Below.refl _ _ | (refine Below.alloc ?_ (by first | (simp; done) | (simp; omega)) _) | refine Below.trans ?_ (Below.mono (by assumption) (by first | omega | (simp; done) | (simp; omega))))

  · skip
    go_wp2_with fail
    refine (again_at (again_reset HV.out (by omega)) _).mono ?_; rintro e w' ⟨rfl, hb1⟩
    obtain ⟨hc1, hf1⟩ := bcell hb1
    have hy1 : w.heap.size + 2 ≤ w'.heap.size := bnext (B := w.heap.size + 2) hb1 (by first | assumption | simp)
    have hl1 : w.heap.size < w'.heap.size := by omega
    go_wp2_with fail
    refine (again_at (again_reset HV.out (by omega)) _).mono ?_; rintro e w' ⟨rfl, hb2⟩
    obtain ⟨hc2, hf2⟩ := bcell hb2
    have hy2 : w.heap.size + 2 ≤ w'.heap.size := bnext (B := w.heap.size + 2) hb2 (by first | assumption | simp)
    have hl2 : w.heap.size < w'.heap.size := by omega
    go_wp2_with fail
    refine (awake_any _).mono ?_; rintro e w' ⟨rfl, hb3⟩
    obtain ⟨hc3, hf3⟩ := bcell hb3
    have hy3 : w.heap.size + 2 ≤ w'.heap.size := bnext (B := w.heap.size + 2) hb3 (by first | assumption | simp)
    have hl3 : w.heap.size < w'.heap.size := by omega
    go_wp2_with fail
    go_ret
    refine RetW.mk (by first | rfl | (simp; omega)) ?_
    repeat (first | exact Below.refl _ _ | (refine Below.alloc ?_ (by first | (simp; done) | (simp; omega)) _) | refine Below.trans ?_ (Below.mono (by assumption) (by first | omega | (simp; done) | (simp; omega))))

  by_cases hTM : T < M
  · by_cases hTM2 : T + 1 < M
    · rcases hK with rfl | rfl
      · obtain ⟨X, hX0, hX1, hA, hB⟩ := again_twice (e := 50) HV.out (by omega) (by omega) hTM
        have HA := Lib.hid hA; have HB := Lib.hid (hB hTM2); clear hA hB hTM2
        go_wp2_with fail
        refine (again_at HA.out _).mono ?_; rintro e w' ⟨rfl, hb1⟩
        obtain ⟨hc1, hf1⟩ := bcell hb1
        have hy1 : w.heap.size + 2 ≤ w'.heap.size := bnext (B := w.heap.size + 2) hb1 (by first | assumption | simp)
        have hl1 : w.heap.size < w'.heap.size := by omega
        go_wp2_with fail
        refine (again_at HB.out _).mono ?_; rintro e w' ⟨rfl, hb2⟩
        obtain ⟨hc2, hf2⟩ := bcell hb2
        have hy2 : w.heap.size + 2 ≤ w'.heap.size := bnext (B := w.heap.size + 2) hb2 (by first | assumption | simp)
        have hl2 : w.heap.size < w'.heap.size := by omega
        go_wp2_with fail
        refine (awake_any _).mono ?_; rintro e w' ⟨rfl, hb3⟩
        obtain ⟨hc3, hf3⟩ := bcell hb3
        have hy3 : w.heap.size + 2 ≤ w'.heap.size := bnext (B := w.heap.size + 2) hb3 (by first | assumption | simp)
        have hl3 : w.heap.size < w'.heap.size := by omega
        go_wp2_with fail
        go_ret
        refine RetW.mk (by first | rfl | (simp; omega)) ?_
        repeat (first | exact Below.refl _ _ | (refine Below.alloc ?_ (by first | (simp; done) | (simp; omega)) _) | refine Below.trans ?_ (Below.mono (by assumption) (by first | omega | (simp; done) | (simp; omega))))
      · obtain ⟨X, hX0, hX1, hA, hB⟩ := again_twice (e := 11) HV.out (by omega) (by omega) hTM
        have HA := Lib.hid hA; have HB := Lib.hid (hB hTM2); clear hA hB hTM2
        go_wp2_with fail
        refine (again_at HA.out _).mono ?_; rintro e w' ⟨rfl, hb1⟩
        obtain ⟨hc1, hf1⟩ := bcell hb1
        have hy1 : w.heap.size + 2 ≤ w'.heap.size := bnext (B := w.heap.size + 2) hb1 (by first | assumption | simp)
        have hl1 : w.heap.size < w'.heap.size := by omega
        go_wp2_with fail
        refine (again_at HB.out _).mono ?_; rintro e w' ⟨rfl, hb2⟩
        obtain ⟨hc2, hf2⟩ := bcell hb2
        have hy2 : w.heap.size + 2 ≤ w'.heap.size := bnext (B := w.heap.size + 2) hb2 (by first | assumption | simp)
        have hl2 : w.heap.size < w'.heap.size := by omega
        go_wp2_with fail
        refine (awake_any _).mono ?_; rintro e w' ⟨rfl, hb3⟩
        obtain ⟨hc3, hf3⟩ := bcell hb3
        have hy3 : w.heap.size + 2 ≤ w'.heap.size := bnext (B := w.heap.size + 2) hb3 (by first | assumption | simp)
        have hl3 : w.heap.size < w'.heap.size := by omega
        go_wp2_with fail
        go_ret
        refine RetW.mk (by first | rfl | (simp; omega)) ?_
        repeat (first | exact Below.refl _ _ | (refine Below.alloc ?_ (by first | (simp; done) | (simp; omega)) _) | refine Below.trans ?_ (Below.mono (by assumption) (by first | omega | (simp; done) | (simp; omega))))

    · rcases hK with rfl | rfl
      · obtain ⟨X, hX0, hX1, hA, hB⟩ := again_twice (e := 50) HV.out (by omega) (by omega) hTM
        have HA := Lib.hid hA; clear hA hB
        go_wp2_with fail
        refine (again_at HA.out _).mono ?_; rintro e w' ⟨rfl, hb1⟩
        obtain ⟨hc1, hf1⟩ := bcell hb1
        have hy1 : w.heap.size + 2 ≤ w'.heap.size := bnext (B := w.heap.size + 2) hb1 (by first | assumption | simp)
        have hl1 : w.heap.size < w'.heap.size := by omega
        go_wp2_with fail
        refine (again_at (again_over (by omega) (by omega) (by omega)) _).mono ?_; rintro e w' ⟨rfl, hb2⟩
        obtain ⟨hc2, hf2⟩ := bcell hb2
        have hy2 : w.heap.size + 2 ≤ w'.heap.size := bnext (B := w.heap.size + 2) hb2 (by first | assumption | simp)
        have hl2 : w.heap.size < w'.heap.size := by omega
        go_wp2_with fail
        refine (awake_any _).mono ?_; rintro e w' ⟨rfl, hb3⟩
        obtain ⟨hc3, hf3⟩ := bcell hb3
        have hy3 : w.heap.size + 2 ≤ w'.heap.size := bnext (B := w.heap.size + 2) hb3 (by first | assumption | simp)
        have hl3 : w.heap.size < w'.heap.size := by omega
        go_wp2_with fail
        go_ret
        refine RetW.mk (by first | rfl | (simp; omega)) ?_
        repeat (first | exact Below.refl _ _ | (refine Below.alloc ?_ (by first | (simp; done) | (simp; omega)) _) | refine Below.trans ?_ (Below.mono (by assumption) (by first | omega | (simp; done) | (simp; omega))))
      · obtain ⟨X, hX0, hX1, hA, hB⟩ := again_twice (e := 11) HV.out (by omega) (by omega) hTM
        have HA := Lib.hid hA; clear hA hB
        go_wp2_with fail
        refine (again_at HA.out _).mono ?_; rintro e w' ⟨rfl, hb1⟩
        obtain ⟨hc1, hf1⟩ := bcell hb1
        have hy1 : w.heap.size + 2 ≤ w'.heap.size := bnext (B := w.heap.size + 2) hb1 (by first | assumption | simp)
        have hl1 : w.heap.size < w'.heap.size := by omega
        go_wp2_with fail
        refine (again_at (again_over (by omega) (by omega) (by omega)) _).mono ?_; rintro e w' ⟨rfl, hb2⟩
        obtain ⟨hc2, hf2⟩ := bcell hb2
        have hy2 : w.heap.size + 2 ≤ w'.heap.size := bnext (B := w.heap.size + 2) hb2 (by first | assumption | simp)
        have hl2 : w.heap.size < w'.heap.size := by omega
        go_wp2_with fail
        refine (awake_any _).mono ?_; rintro e w' ⟨rfl, hb3⟩
        obtain ⟨hc3, hf3⟩ := bcell hb3
        have hy3 : w.heap.size + 2 ≤ w'.heap.size := bnext (B := w.heap.size + 2) hb3 (by first | assumption | simp)
        have hl3 : w.heap.size < w'.heap.size := by omega
        go_wp2_with fail
        go_ret
        refine RetW.mk (by first | rfl | (simp; omega)) ?_
        repeat (first | exact Below.refl _ _ | (refine Below.alloc ?_ (by first | (simp; done) | (simp; omega)) _) | refine Below.trans ?_ (Below.mono (by assumption) (by first | omega | (simp; done) | (simp; omega))))

  · rcases hK with rfl | rfl
    · skip
      go_wp2_with fail
      refine (again_at (again_over (by omega) (by omega) (by omega)) _).mono ?_; rintro e w' ⟨rfl, hb1⟩
      obtain ⟨hc1, hf1⟩ := bcell hb1
      have hy1 : w.heap.size + 2 ≤ w'.heap.size := bnext (B := w.heap.size + 2) hb1 (by first | assumption | simp)
      have hl1 : w.heap.size < w'.heap.size := by omega
      go_wp2_with fail
      refine (again_at (again_over (by omega) (by omega) (by omega)) _).mono ?_; rintro e w' ⟨rfl, hb2⟩
      obtain ⟨hc2, hf2⟩ := bcell hb2
      have hy2 : w.heap.size + 2 ≤ w'.heap.size := bnext (B := w.heap.size + 2) hb2 (by first | assumption | simp)
      have hl2 : w.heap.size < w'.heap.size := by omega
      go_wp2_with fail
      refine (awake_any _).mono ?_; rintro e w' ⟨rfl, hb3⟩
      obtain ⟨hc3, hf3⟩ := bcell hb3
      have hy3 : w.heap.size + 2 ≤ w'.heap.size := bnext (B := w.heap.size + 2) hb3 (by first | assumption | simp)
      have hl3 : w.heap.size < w'.heap.size := by omega
      go_wp2_with fail
      go_ret
      refine RetW.mk (by first | rfl | (simp; omega)) ?_
      repeat (first | exact Below.refl _ _ | (refine Below.alloc ?_ (by first | (simp; done) | (simp; omega)) _) | refine Below.trans ?_ (Below.mono (by assumption) (by first | omega | (simp; done) | (simp; omega))))
    · skip
      go_wp2_with fail
      refine (again_at (again_over (by omega) (by omega) (by omega)) _).mono ?_; rintro e w' ⟨rfl, hb1⟩
      obtain ⟨hc1, hf1⟩ := bcell hb1
      have hy1 : w.heap.size + 2 ≤ w'.heap.size := bnext (B := w.heap.size + 2) hb1 (by first | assumption | simp)
      have hl1 : w.heap.size < w'.heap.size := by omega
      go_wp2_with fail
      refine (again_at (again_over (by omega) (by omega) (by omega)) _).mono ?_; rintro e w' ⟨rfl, hb2⟩
      obtain ⟨hc2, hf2⟩ := bcell hb2
      have hy2 : w.heap.size + 2 ≤ w'.heap.size := bnext (B := w.heap.size + 2) hb2 (by first | assumption | simp)
      have hl2 : w.heap.size < w'.heap.size := by omega
      go_wp2_with fail
      refine (awake_any _).mono ?_; rintro e w' ⟨rfl, hb3⟩
      obtain ⟨hc3, hf3⟩ := bcell hb3
      have hy3 : w.heap.size + 2 ≤ w'.heap.size := bnext (B := w.heap.size + 2) hb3 (by first | assumption | simp)
      have hl3 : w.heap.size < w'.heap.size := by omega
      go_wp2_with fail
      go_ret
      refine RetW.mk (by first | rfl | (simp; omega)) ?_
      repeat (first | exact Below.refl _ _ | (refine Below.alloc ?_ (by first | (simp; done) | (simp; omega)) _) | refine Below.trans ?_ (Below.mono (by assumption) (by first | omega | (simp; done) | (simp; omega))))

end Go.Proofs.Ythfjlojikbgnfaa
