/- Contracts of layer 5: the observer. -/
import Derived.Test.YtmbhenafiglakaaCalls
import Derived.Deep.RegionHeld3
namespace Go.Proofs.Ytmbhenafiglakaa
open Go.ChangeShapes Go.WideShapes Go.ChangeAt Go.RowKit

def wellB (c e u : Int) : Bool := rightB c e && decide (0 ≤ u) && decide (u ≤ c)
set_option maxHeartbeats 1000000 in
theorem well_any (c e u : Int) (b : Nat) (w : World) (hb0 : b < w.heap.size) (hu : w.cell? ⟨b, 0, none⟩ = some (.int .i64 u)) :
    Calls Try.prog 20 #[.pointer (some ⟨b, 0, none⟩), .agg #[.int .i64 c, .int .i64 e]] w (RetW (.bool (wellB c e u)) w) := by
  unfold wellB
  have hne : b ≠ w.heap.size := by omega
  have hlt : b < w.heap.size + 1 := by omega
  by_cases hr : rightB c e = true
  · by_cases hu0 : 0 ≤ u
    · have hd : decide (0 ≤ u) = true := by simpa using hu0
      go_enter Try.func20, Try.ntmps20
      go_wp2_with fail
      go_region_held3 (fun w' => w'.cell? ⟨b, 0, none⟩ = some (.int .i64 u) ∧ w'.cell? ⟨w.heap.size, 0, none⟩ = some (.int .i64 c) ∧ w'.cell? ⟨w.heap.size, 1, none⟩ = some (.int .i64 e)) (go_keep) (first | (go_at_call 17; refine (right_any _ _ _).mono ?_; rintro e w' ⟨rfl, hb⟩; obtain ⟨hc, hf⟩ := bcell hb; have hy : w.heap.size < w'.heap.size := bnext (B := w.heap.size + 1) hb (by first | assumption | simp)))
      all_goals
        go_wp2
        go_ret
        refine RetW.mk (by simp [Act.put, *]; try omega) ?_
        repeat (first | exact Below.refl _ _ | (refine Below.drew ?_) | (refine Below.setCell ?_ (by simp) _) | (refine Below.alloc ?_ (by first | (simp; done) | (simp; omega)) _) | refine Below.trans ?_ (Below.mono (by assumption) (by first | omega | (simp; done) | (simp; omega))))
    · have hd : decide (0 ≤ u) = false := by simpa using hu0
      go_enter Try.func20, Try.ntmps20
      go_wp2_with fail
      (first | go_region_with (go_at_call 17; refine (right_any _ _ _).mono ?_; rintro e w' ⟨rfl, hb⟩; obtain ⟨hc, hf⟩ := bcell hb; have hy : w.heap.size < w'.heap.size := bnext (B := w.heap.size + 1) hb (by first | assumption | simp)) | fail)
      all_goals
        go_wp2
        go_ret
        refine RetW.mk (by simp [Act.put, *]; try omega) ?_
        repeat (first | exact Below.refl _ _ | (refine Below.drew ?_) | (refine Below.setCell ?_ (by simp) _) | (refine Below.alloc ?_ (by first | (simp; done) | (simp; omega)) _) | refine Below.trans ?_ (Below.mono (by assumption) (by first | omega | (simp; done) | (simp; omega))))
  · have hr : rightB c e = false := by simpa using hr
    go_enter Try.func20, Try.ntmps20
    go_wp2_with fail
    (first | go_region_with (go_at_call 17; refine (right_any _ _ _).mono ?_; rintro e w' ⟨rfl, hb⟩; obtain ⟨hc, hf⟩ := bcell hb; have hy : w.heap.size < w'.heap.size := bnext (B := w.heap.size + 1) hb (by first | assumption | simp)) | fail)
    all_goals
      go_wp2
      go_ret
      refine RetW.mk (by simp [Act.put, *]; try omega) ?_
      repeat (first | exact Below.refl _ _ | (refine Below.drew ?_) | (refine Below.setCell ?_ (by simp) _) | (refine Below.alloc ?_ (by first | (simp; done) | (simp; omega)) _) | refine Below.trans ?_ (Below.mono (by assumption) (by first | omega | (simp; done) | (simp; omega))))

end Go.Proofs.Ytmbhenafiglakaa
