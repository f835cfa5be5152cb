/- Contracts of the small functions of layer 29: Round, Valid, Again, awake. -/
import Derived.Test.YthfjlojikbgnfaaRows
import Derived.WalkKit
import Derived.ProofKit
import Derived.OpenShut
import Derived.Lib.Hide
namespace Go.Proofs.Ythfjlojikbgnfaa
open Go.ChangeShapes Go.WideShapes Go.ChangeAt Go.RowKit

def rnd (n m : Int) : Int := (n % 18446744073709551616) % m
theorem rnd_lo (n m : Int) (hm : 1 ≤ m) : 0 ≤ rnd n m := Int.emod_nonneg _ (by omega)
theorem rnd_hi (n m : Int) (hm : 1 ≤ m) : rnd n m < m := Int.emod_lt_of_pos _ (by omega)
theorem rnd_eq (n m : Int) (hm : 1 ≤ m) (hm2 : m ≤ 1000000) : wrap64 ((IntKind.u64.wrap n).tmod m) = rnd n m := by
  have e : IntKind.u64.wrap n = n % 18446744073709551616 := rfl
  have h0 : 0 ≤ n % 18446744073709551616 := Int.emod_nonneg _ (by omega)
  rw [e, Int.tmod_eq_emod_of_nonneg h0]
  have := rnd_lo n m hm; have := rnd_hi n m hm
  unfold rnd at *
  exact IntWalk.wrap64_in _ (by omega)
theorem ret_int {k : IntKind} {a b : Int} (h : a = b) : Ending.returned (.int k a) = .returned (.int k b) := by rw [h]

set_option maxHeartbeats 400000 in
theorem round_any (n m : Int) (w : World) (hm : 1 ≤ m) (hm2 : m ≤ 1000000) :
    Calls Try.prog 8 #[.int .i64 n, .int .i64 m] w fun e w' => e = .returned (.int .i64 (rnd n m)) ∧ w = w' := by
  go_enter Try.func8, Try.ntmps8
  go_wp2
  go_ret
  exact ⟨ret_int (rnd_eq n m hm hm2), rfl⟩

def validB (m t : Int) : Bool := decide (0 ≤ m) && decide (m ≤ 4) && decide (0 ≤ t) && decide (t ≤ 1000)
def RetW (v : Value) (w : World) (e : Ending) (w' : World) : Prop := e = .returned v ∧ Below w.heap.size w w'
theorem RetW.mk {v v' : Value} {w w' : World} (h : v' = v) (hb : Below w.heap.size w w') : RetW v w (.returned v') w' := ⟨by rw [h], hb⟩
theorem bcell {W w1 : World} (hb : Below W.heap.size W w1) : (∀ b o, b < W.heap.size → w1.cell? ⟨b, o, none⟩ = W.cell? ⟨b, o, none⟩) ∧ (∀ b o, b < W.heap.size → w1.frozen? ⟨b, o, none⟩ = W.frozen? ⟨b, o, none⟩) :=
  ⟨fun b o h => hb.cell (p := ⟨b, o, none⟩) h, fun b o h => hb.frozen (p := ⟨b, o, none⟩) h⟩

set_option maxHeartbeats 400000 in
theorem valid_any (m t : Int) (w : World) :
    Calls Try.prog 18 #[.agg #[.int .i64 m, .int .i64 t]] w (RetW (.bool (validB m t)) w) := by
  go_enter Try.func18, Try.ntmps18
  go_wp2
  all_goals
    go_ret
    refine RetW.mk (by unfold validB; simp [*]; try omega) ?_
    exact (Below.refl _ _).alloc (Nat.le_refl _) _

def againS (m t e n : Int) : Int × Bool :=
  if validB m t = true ∧ 0 ≤ n then
    if e = 51 then (0, true) else if (e = 50 ∨ e = 11) ∧ n < m then (t * 2 ^ n.toNat, true) else (0, false)
  else (0, false)
theorem valid_bd {m t : Int} (h : validB m t = true) : 0 ≤ m ∧ m ≤ 4 ∧ 0 ≤ t ∧ t ≤ 1000 := by
  unfold validB at h; simp at h; omega
theorem shl_eq {m t n : Int} (h : validB m t = true) (h0 : 0 ≤ n) (h1 : n < m) : wrap64 (t * 2 ^ min n.toNat 64) = t * 2 ^ n.toNat := by
  have := valid_bd h
  obtain ⟨k, rfl⟩ := Int.eq_ofNat_of_zero_le h0
  have hk : k = 0 ∨ k = 1 ∨ k = 2 ∨ k = 3 := by omega
  rcases hk with rfl | rfl | rfl | rfl <;> (refine IntWalk.wrap64_in _ ?_; simp; omega)
theorem again_eq {m t e n a : Int} {b : Bool} (h : againS m t e n = (a, b)) : Value.tuple #[.int .i64 a, .bool b] = Value.tuple #[.int .i64 (againS m t e n).1, .bool (againS m t e n).2] := by rw [h]

set_option maxHeartbeats 400000 in
theorem again_any (m t e n : Int) (w : World) :
    Calls Try.prog 9 #[.agg #[.int .i64 m, .int .i64 t], .int .i64 e, .int .i64 n] w (RetW (.tuple #[.int .i64 (againS m t e n).1, .bool (againS m t e n).2]) w) := by
  go_enter Try.func9, Try.ntmps9
  go_wp2_with (go_at_call 18; refine (valid_any _ _ _).mono ?_; rintro e w' ⟨rfl, hb⟩; obtain ⟨hc, hf⟩ := bcell hb)
  all_goals
    go_ret2
    refine RetW.mk (again_eq ?_) ?_
    · unfold againS
      (repeat' split) <;> first | rfl | (exfalso; omega) | (exfalso; simp only [beq_iff_eq, beq_eq_false_iff_ne] at *; omega) | (exfalso; simp_all; done) | (rw [shl_eq ‹_› ‹_› ‹_›])
    · exact ((Below.refl _ _).alloc (Nat.le_refl _) _).trans (hb.mono (by simp))

theorem bnext {W w1 : World} {B : Nat} (hb : Below W.heap.size W w1) (hB : B ≤ W.heap.size) : B ≤ w1.heap.size := Nat.le_trans hB hb.size
theorem awake_any (w : World) : Calls Try.prog 10 #[] w (RetW (.bool true) w) := by
  have e1 : againS 2 3 50 0 = (3, true) := by decide +kernel
  have e2 : againS 2 3 50 1 = (6, true) := by decide +kernel
  have e3 : againS 2 3 50 2 = (0, false) := by decide +kernel
  have e4 : validB 2 3 = true := by decide +kernel
  go_enter Try.func10, Try.ntmps10
  go_wp2_with (first | (go_at_call 9; refine (again_any _ _ _ _ _).mono ?_; rintro e w' ⟨rfl, hb⟩; obtain ⟨hc, hf⟩ := bcell hb; have hy : w.heap.size < w'.heap.size := bnext (B := w.heap.size + 1) hb (by first | assumption | simp)) | (go_at_call 18; refine (valid_any _ _ _).mono ?_; rintro e w' ⟨rfl, hb⟩; obtain ⟨hc, hf⟩ := bcell hb))
  go_ret
  refine RetW.mk rfl ?_
  repeat (first | exact Below.refl _ _ | exact (Below.refl _ _).alloc (Nat.le_refl _) _ | refine Below.trans ?_ (Below.mono (by assumption) (by first | (simp; done) | omega)))

theorem round_some (n m : Int) (w : World) (hm : 1 ≤ m) (hm2 : m ≤ 1000000) :
    Calls Try.prog 8 #[.int .i64 n, .int .i64 m] w fun e w' => ∃ r : Int, 0 ≤ r ∧ r < m ∧ e = .returned (.int .i64 r) ∧ w = w' :=
  (round_any n m w hm hm2).mono fun e w' h => ⟨rnd n m, rnd_lo n m hm, rnd_hi n m hm, h⟩
end Go.Proofs.Ythfjlojikbgnfaa
