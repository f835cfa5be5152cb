/- Contracts of layer 5. -/
import Derived.Test.YtmbhenafiglakaaRows
import Derived.WalkKit
import Derived.ProofKit
import Derived.OpenShut
import Derived.Lib.Hide
import Derived.StillTailTactics
import Derived.Deep.QuietTactic
import Derived.BigQuiet
import Derived.Deep.RegionWith
namespace Go.Proofs.Ytmbhenafiglakaa
open Go.ChangeShapes Go.WideShapes Go.ChangeAt Go.RowKit

def RetW (v : Value) (w : World) (e : Ending) (w' : World) : Prop := e = .returned v ∧ Below w.heap.size w w'
theorem RetW.mk {v v' : Value} {w w' : World} (h : v' = v) (hb : Below w.heap.size w w') : RetW v w (.returned v') w' := ⟨by rw [h], hb⟩
theorem bcell {W w1 : World} (hb : Below W.heap.size W w1) : (∀ b o, b < W.heap.size → w1.cell? ⟨b, o, none⟩ = W.cell? ⟨b, o, none⟩) ∧ (∀ b o, b < W.heap.size → w1.frozen? ⟨b, o, none⟩ = W.frozen? ⟨b, o, none⟩) :=
  ⟨fun b o h => hb.cell (p := ⟨b, o, none⟩) h, fun b o h => hb.frozen (p := ⟨b, o, none⟩) h⟩
theorem bnext {W w1 : World} {B : Nat} (hb : Below W.heap.size W w1) (hB : B ≤ W.heap.size) : B ≤ w1.heap.size := Nat.le_trans hB hb.size
theorem ret_int {k : IntKind} {a b : Int} (h : a = b) : Ending.returned (.int k a) = .returned (.int k b) := by rw [h]

/-- the model of Cut: n modulo m as 64 bits without a sign -/
def cut (x n : Int) : Int := (x % 18446744073709551616) % n
theorem cut_lo (n m : Int) (hm : 1 ≤ m) : 0 ≤ cut n m := Int.emod_nonneg _ (by omega)
theorem cut_hi (n m : Int) (hm : 1 ≤ m) : cut n m < m := Int.emod_lt_of_pos _ (by omega)
theorem cut_eq (n m : Int) (hm : 1 ≤ m) (hm2 : m ≤ 1000000) : wrap64 ((IntKind.u64.wrap n).tmod (IntKind.u64.wrap m)) = cut n m := by
  have e : IntKind.u64.wrap n = n % 18446744073709551616 := rfl
  have e2 : IntKind.u64.wrap m = m % 18446744073709551616 := rfl
  have h0 : 0 ≤ n % 18446744073709551616 := Int.emod_nonneg _ (by omega)
  rw [e, e2, Int.tmod_eq_emod_of_nonneg h0, show m % 18446744073709551616 = m from by omega]
  have := cut_lo n m hm; have := cut_hi n m hm
  unfold cut at *
  exact IntWalk.wrap64_in _ (by omega)
theorem cut_eq' (n m : Int) (hm : 1 ≤ m) (hm2 : m ≤ 1000000) : wrap64 ((IntKind.u64.wrap n).tmod m) = cut n m := by
  have := cut_eq n m hm hm2
  rwa [show IntKind.u64.wrap m = m from by show m % 18446744073709551616 = m; omega] at this

set_option maxHeartbeats 400000 in
theorem cut_any (n m : Int) (w : World) (hm : 1 ≤ m) (hm2 : m ≤ 1000000) :
    Calls Try.prog 5 #[.int .i64 n, .int .i64 m] w fun e w' => e = .returned (.int .i64 (cut n m)) ∧ w = w' := by
  go_enter Try.func5, Try.ntmps5
  go_wp2
  go_ret
  exact ⟨ret_int (by first | exact cut_eq n m hm hm2 | exact cut_eq' n m hm hm2), rfl⟩

/-- a sequence is right -/
def rightB (c e : Int) : Bool := decide (0 ≤ c) && decide (c ≤ 1000000) && ((c == 0) == (e == 0))

set_option maxHeartbeats 400000 in
theorem right_any (c e : Int) (w : World) :
    Calls Try.prog 17 #[.agg #[.int .i64 c, .int .i64 e]] w (RetW (.bool (rightB c e)) w) := by
  go_enter Try.func17, Try.ntmps17
  go_wp2
  all_goals
    go_ret
    refine RetW.mk (by unfold rightB; simp [*]; try omega) ?_
    exact (Below.refl _ _).alloc (Nat.le_refl _) _
end Go.Proofs.Ytmbhenafiglakaa
