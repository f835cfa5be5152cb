/- Contents of files: what the small functions compute. -/
import Derived.Test.YtebdnnfaghhpkaaTap
import Derived.Test.YtebdnnfaghhpkaaShelf
namespace Go.Proofs.Ytebdnnfaghhpkaa
open Go.ChangeShapes Go.WideShapes Go.ChangeAt Go.RowKit

theorem rep_zero (c : Nat) : Lib.repeatL [0] c = List.replicate c (0 : UInt8) := by
  induction c with
  | zero => rfl
  | succ n ih => simp [Lib.repeatL, ih, List.replicate_succ]
theorem repeat_any (n : Int) (w : World) (h0 : 0 ≤ n) (h1 : n ≤ 1000000) :
    Calls Try.prog 41 #[.string ⟨#[0]⟩, .int .i64 n] w (RetW (.string (zeros n.toNat)) w) := by
  obtain ⟨c, rfl⟩ := Int.eq_ofNat_of_zero_le h0
  refine (Try.strings_Repeat ⟨#[0]⟩ c w (by omega) (by show 1 * c ≤ _; omega)).mono ?_
  rintro e w' ⟨rfl, hb⟩
  refine ⟨?_, hb⟩
  show Ending.returned (.string ⟨(Lib.repeatL [0] c).toArray⟩) = _
  rw [rep_zero]; rfl
def longB (s : ByteArray) : Bool := decide (128 < s.size)
def badB (n : Int) : Bool := decide (n < 0 ∨ 128 < n)
theorem long_any (s : ByteArray) (w : World) (hs : s.size ≤ maxLen) : Calls Try.prog 32 #[.string s] w fun e w' => e = .returned (.bool (longB s)) ∧ w = w' := by
  unfold maxLen at hs
  go_enter Try.func32, Try.ntmps32
  go_wp2_with fail
  go_ret
  have e : decide (128 < (s.size : Int)) = longB s := by
    unfold longB
    congr 1
    apply propext
    omega
  exact ⟨by show Ending.returned (.bool (decide (128 < (s.size : Int)))) = _; rw [e], rfl⟩
theorem bad_any (n : Int) (w : World) : Calls Try.prog 33 #[.int .i64 n] w fun e w' => e = .returned (.bool (badB n)) ∧ w = w' := by
  go_enter Try.func33, Try.ntmps33
  go_wp2_with fail
  all_goals
    go_ret
    refine ⟨?_, rfl⟩
    simp [badB]
    try omega
/-- cut or filled with zeros -/
def sizedS (s : ByteArray) (n : Nat) : ByteArray := if n ≤ s.size then s.extract 0 n else s ++ zeros (n - s.size)
set_option maxHeartbeats 1000000 in
theorem sized_any (s : ByteArray) (n : Nat) (w : World) (hs : s.size ≤ 1000000) (hn : n ≤ 1000000) : Calls Try.prog 36 #[.string s, .int .i64 n] w (RetW (.string (sizedS s n)) w) := by
  by_cases h : n ≤ s.size
  · have HR : Hid (sizedS s n = s.extract 0 n) := by unfold Hid sizedS; rw [if_pos h]
    have h2 : (n : Int) ≤ (s.size : Int) := by omega
    go_enter Try.func36, Try.ntmps36
    go_wp2_with fail
    go_ret
    exact RetW.mk (by rw [HR.out]; rfl) (Below.refl _ _)
  · have HR : Hid (sizedS s n = s ++ zeros (n - s.size)) := by unfold Hid sizedS; rw [if_neg h]
    have h2 : (s.size : Int) < (n : Int) := by omega
    have hrep := fun w => repeat_any ((n : Int) - (s.size : Int)) w (by omega) (by omega)
    have he : ((n : Int) - (s.size : Int)).toNat = n - s.size := by omega
    rw [he] at hrep
    have hz := size_zeros (n - s.size)
    generalize zeros (n - s.size) = z at *
    have hl : s.size + z.size ≤ 9223372036854775807 := by omega
    have HP := Lib.hid hrep
    clear hrep he hz
    go_enter Try.func36, Try.ntmps36
    go_wp2_with (go_at_call 41; refine (HP.out _).mono ?_; rintro e w' ⟨rfl, hb⟩)
    go_ret
    exact RetW.mk (by rw [HR.out]; rfl) hb
end Go.Proofs.Ytebdnnfaghhpkaa
