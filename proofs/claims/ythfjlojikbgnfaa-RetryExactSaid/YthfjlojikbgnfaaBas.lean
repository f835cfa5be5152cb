/- Contracts of the small functions of layer 29: Valid, Again, awake. -/
import Derived.Test.YthfjlojikbgnfaaKit
namespace Go.Proofs.Ythfjlojikbgnfaa
open Go.ChangeShapes Go.WideShapes Go.ChangeAt Go.RowKit

def validB (m t : Int) : Bool := decide (0 ≤ m) && decide (m ≤ 4) && decide (0 ≤ t) && decide (t ≤ 1000)
set_option maxHeartbeats 400000 in
theorem valid_any (m t : Int) (w : World) :
    Calls Try.prog 18 #[.agg #[.int .i64 m, .int .i64 t]] w (RetW (.bool (validB m t)) w) := by
  go_enter Try.func18, Try.ntmps18
  go_wp2
  all_goals
    go_ret
    refine RetW.mk (by unfold validB; simp [*]; try omega) ?_
    exact (Below.refl _ _).alloc (Nat.le_refl _) _

def againS (m t e n : Int) : Int × Bool :=
  if validB m t = true ∧ 0 ≤ n then
    if e = 51 then (0, true) else if (e = 50 ∨ e = 11) ∧ n < m then (t * 2 ^ n.toNat, true) else (0, false)
  else (0, false)
theorem valid_bd {m t : Int} (h : validB m t = true) : 0 ≤ m ∧ m ≤ 4 ∧ 0 ≤ t ∧ t ≤ 1000 := by
  unfold validB at h; simp at h; omega
theorem shl_eq {m t n : Int} (h : validB m t = true) (h0 : 0 ≤ n) (h1 : n < m) : wrap64 (t * 2 ^ min n.toNat 64) = t * 2 ^ n.toNat := by
  have := valid_bd h
  obtain ⟨k, rfl⟩ := Int.eq_ofNat_of_zero_le h0
  have hk : k = 0 ∨ k = 1 ∨ k = 2 ∨ k = 3 := by omega
  rcases hk with rfl | rfl | rfl | rfl <;> (refine IntWalk.wrap64_in _ ?_; simp; omega)
theorem again_eq {m t e n a : Int} {b : Bool} (h : againS m t e n = (a, b)) : Value.tuple #[.int .i64 a, .bool b] = Value.tuple #[.int .i64 (againS m t e n).1, .bool (againS m t e n).2] := by rw [h]

set_option maxHeartbeats 400000 in
theorem again_any (m t e n : Int) (w : World) :
    Calls Try.prog 9 #[.agg #[.int .i64 m, .int .i64 t], .int .i64 e, .int .i64 n] w (RetW (.tuple #[.int .i64 (againS m t e n).1, .bool (againS m t e n).2]) w) := by
  go_enter Try.func9, Try.ntmps9
  go_wp2_with (go_at_call 18; refine (valid_any _ _ _).mono ?_; rintro e w' ⟨rfl, hb⟩; obtain ⟨hc, hf⟩ := bcell hb)
  all_goals
    go_ret2
    refine RetW.mk (again_eq ?_) ?_
    · unfold againS
      (repeat' split) <;> first | rfl | (exfalso; omega) | (exfalso; simp only [beq_iff_eq, beq_eq_false_iff_ne] at *; omega) | (exfalso; simp_all; done) | (rw [shl_eq ‹_› ‹_› ‹_›])
    · exact ((Below.refl _ _).alloc (Nat.le_refl _) _).trans (hb.mono (by simp))

theorem awake_any (w : World) : Calls Try.prog 10 #[] w (RetW (.bool true) w) := by
  have e1 : againS 2 3 50 0 = (3, true) := by decide +kernel
  have e2 : againS 2 3 50 1 = (6, true) := by decide +kernel
  have e3 : againS 2 3 50 2 = (0, false) := by decide +kernel
  have e4 : validB 2 3 = true := by decide +kernel
  go_enter Try.func10, Try.ntmps10
  go_wp2_with (first | (go_at_call 9; refine (again_any _ _ _ _ _).mono ?_; rintro e w' ⟨rfl, hb⟩; obtain ⟨hc, hf⟩ := bcell hb; have hy : w.heap.size < w'.heap.size := bnext (B := w.heap.size + 1) hb (by first | assumption | simp)) | (go_at_call 18; refine (valid_any _ _ _).mono ?_; rintro e w' ⟨rfl, hb⟩; obtain ⟨hc, hf⟩ := bcell hb))
  go_ret
  refine RetW.mk rfl ?_
  repeat (first | exact Below.refl _ _ | exact (Below.refl _ _).alloc (Nat.le_refl _) _ | refine Below.trans ?_ (Below.mono (by assumption) (by first | (simp; done) | omega)))

end Go.Proofs.Ythfjlojikbgnfaa
