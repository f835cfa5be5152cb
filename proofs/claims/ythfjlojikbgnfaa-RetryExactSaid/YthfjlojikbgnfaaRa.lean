/- The document's Again and Policy. -/
import Derived.Test.YthfjlojikbgnfaaBas
namespace Go.Proofs.Ythfjlojikbgnfaa
open Go.ChangeShapes Go.WideShapes Go.ChangeAt Go.RowKit

set_option maxHeartbeats 400000 in
theorem policyR_any (m t : Int) (w : World) :
    Calls Try.prog 19 #[.agg #[.int .i64 m, .int .i64 t]] w (RetW (.bool (validB m t)) w) := by
  go_enter Try.func19, Try.ntmps19
  go_wp2
  all_goals
    go_ret
    refine RetW.mk (by unfold validB; simp [*]; try omega) ?_
    exact (Below.refl _ _).alloc (Nat.le_refl _) _

theorem uw_eq {m t n : Int} (h : validB m t = true) (h0 : 0 ≤ n) (h1 : n < m) : IntKind.u64.wrap n = n := by
  have := valid_bd h
  show n % 18446744073709551616 = n
  omega
set_option maxHeartbeats 400000 in
theorem againR_any (m t e n : Int) (w : World) :
    Calls Try.prog 14 #[.agg #[.int .i64 m, .int .i64 t], .int .i64 e, .int .i64 n] w (RetW (.tuple #[.int .i64 (againS m t e n).1, .bool (againS m t e n).2]) w) := by
  go_enter Try.func14, Try.ntmps14
  go_wp2_with (go_at_call 19; refine (policyR_any _ _ _).mono ?_; rintro e w' ⟨rfl, hb⟩; obtain ⟨hc, hf⟩ := bcell hb)
  all_goals
    go_ret2
    refine RetW.mk (again_eq ?_) ?_
    · unfold againS
      (repeat' split) <;> first | rfl | (exfalso; omega) | (exfalso; simp only [beq_iff_eq, beq_eq_false_iff_ne] at *; omega) | (exfalso; simp_all; done) | (rw [uw_eq ‹_› ‹_› ‹_›, shl_eq ‹_› ‹_› ‹_›])
    · exact ((Below.refl _ _).alloc (Nat.le_refl _) _).trans (hb.mono (by simp))

end Go.Proofs.Ythfjlojikbgnfaa
