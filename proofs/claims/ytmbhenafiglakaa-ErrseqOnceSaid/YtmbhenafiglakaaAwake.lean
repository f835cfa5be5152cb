/- awake of layer 5 returns true. -/
import Derived.Test.YtmbhenafiglakaaLook
namespace Go.Proofs.Ytmbhenafiglakaa
open Go.ChangeShapes Go.WideShapes Go.ChangeAt Go.RowKit

set_option maxHeartbeats 2000000 in
theorem awake_any (w : World) : Calls Try.prog 14 #[] w (RetW (.bool true) w) := by
  have e1 : recS 0 0 10 = (1, 10, 0) := by decide +kernel
  have e2 : lookS 1 10 0 = (10, 1) := by decide +kernel
  have e3 : lookS 1 10 1 = (0, 1) := by decide +kernel
  have e4 : samS 1 10 = 1 := by decide +kernel
  have e5 : penB 1 10 0 = true := by decide +kernel
  have e6 : penB 1 10 1 = false := by decide +kernel
  go_enter Try.func14, Try.ntmps14
  go_wp2_with fail
  refine (record_any _ _ _ _).mono ?_
  rintro e0 w0 ⟨rfl, hb0⟩
  go_wp2_with fail
  have hB : Below w.heap.size w w0 := hb0
  go_wp2_with (first | (go_at_call 8; refine (check_any _ _ _ _).mono ?_; rintro e w' ⟨rfl, hb⟩; obtain ⟨hc, hf⟩ := bcell hb; have hy : w0.heap.size < w'.heap.size := bnext (B := w0.heap.size + 1) hb (by first | assumption | simp)) | (go_at_call 10; refine (sample_any _ _ _).mono ?_; rintro e w' ⟨rfl, hb⟩; obtain ⟨hc, hf⟩ := bcell hb; have hy : w0.heap.size < w'.heap.size := bnext (B := w0.heap.size + 1) hb (by first | assumption | simp)) | (go_at_call 12; refine (pending_any _ _ _ _).mono ?_; rintro e w' ⟨rfl, hb⟩; obtain ⟨hc, hf⟩ := bcell hb; have hy : w0.heap.size < w'.heap.size := bnext (B := w0.heap.size + 1) hb (by first | assumption | simp)))
  go_ret
  refine RetW.mk rfl ?_
  repeat (first | exact hB | (refine Below.alloc ?_ (by first | exact hB.size | (simp; done) | (simp; omega)) _) | refine Below.trans ?_ (Below.mono (by assumption) (by have := hB.size; first | omega | (simp; done) | (simp; omega))))
end Go.Proofs.Ytmbhenafiglakaa
