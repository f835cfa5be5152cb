/- Writing, truncating and punching: the program's answer. -/
import Derived.Test.YtebdnnfaghhpkaaRdr
namespace Go.Proofs.Ytebdnnfaghhpkaa
open Go.ChangeShapes Go.WideShapes Go.ChangeAt Go.RowKit

def truncV (s : ByteArray) (n : Int) : ByteArray × Int := if longB s = true then (s, 1) else if badB n = true then (s, 2) else (sizedS s n.toNat, 0)
def writeV (s : ByteArray) (off : Int) (b : ByteArray) : ByteArray × Int :=
  if longB s = true then (s, 1) else if badB off = true ∨ 128 - off < (b.size : Int) then (s, 2) else if b.size = 0 then (s, 0) else (putS s off.toNat b, 0)
def punchV (s : ByteArray) (off n : Int) : ByteArray × Int :=
  if longB s = true then (s, 1) else if badB off = true ∨ n < 0 then (s, 2) else if min n ((s.size : Int) - off) ≤ 0 then (s, 0) else (putS s off.toNat (sizedS ⟨#[]⟩ (min n ((s.size : Int) - off)).toNat), 0)

set_option maxHeartbeats 2000000 in
theorem trunc_any (s : ByteArray) (n : Int) (w : World) (hs : s.size ≤ maxLen) :
    Calls Try.prog 16 #[.string s, .int .i64 n] w (RetW (.tuple #[.string (truncV s n).1, .int .i64 (truncV s n).2]) w) := by
  have HL := Lib.hid (fun w => long_any s w hs)
  have HB := Lib.hid (bad_any n)
  cases hl : longB s with
  | true =>
    rw [hl] at HL
    have HR : Hid (truncV s n = (s, 1)) := by unfold Hid truncV; rw [if_pos hl]
    clear hl
    go_enter Try.func16, Try.ntmps16
    go_wp2_with (go_at_call 32; refine (HL.out _).mono ?_; rintro e w' ⟨rfl, rfl⟩)
    go_ret2
    rw [HR.out]
    exact ⟨rfl, Below.refl _ _⟩
  | false =>
    rw [hl] at HL
    have hl' : ¬ longB s = true := by rw [hl]; simp
    have hsz : s.size ≤ 128 := by rw [longB_iff] at hl'; omega
    cases hb : badB n with
    | true =>
      rw [hb] at HB
      have HR : Hid (truncV s n = (s, 2)) := by unfold Hid truncV; rw [if_neg hl', if_pos hb]
      clear hl hl' hb
      go_enter Try.func16, Try.ntmps16
      go_wp2_with (first | (go_at_call 32; refine (HL.out _).mono ?_; rintro e w' ⟨rfl, rfl⟩) | (go_at_call 33; refine (HB.out _).mono ?_; rintro e w' ⟨rfl, rfl⟩))
      go_ret2
      rw [HR.out]
      exact ⟨rfl, Below.refl _ _⟩
    | false =>
      rw [hb] at HB
      have hb' : ¬ badB n = true := by rw [hb]; simp
      have hof : ¬ (n < 0 ∨ 128 < n) := by rw [← badB_iff]; exact hb'
      obtain ⟨m, rfl⟩ := Int.eq_ofNat_of_zero_le (show 0 ≤ n by omega)
      have e2 : ((m : Int)).toNat = m := by omega
      have HR : Hid (truncV s (m : Int) = (sizedS s m, 0)) := by unfold Hid truncV; rw [if_neg hl', if_neg hb', e2]
      have HZ := Lib.hid (fun w => sized_any s m w (by omega) (by omega))
      clear hl hl' hb hb' hof e2
      go_enter Try.func16, Try.ntmps16
      go_wp2_with (first | (go_at_call 32; refine (HL.out _).mono ?_; rintro e w' ⟨rfl, rfl⟩) | (go_at_call 33; refine (HB.out _).mono ?_; rintro e w' ⟨rfl, rfl⟩) | (go_at_call 36; refine (HZ.out _).mono ?_; rintro e w' ⟨rfl, hbw⟩))
      go_ret2
      rw [HR.out]
      exact ⟨rfl, hbw⟩

set_option maxHeartbeats 4000000 in
theorem write_any (s : ByteArray) (off : Int) (b : ByteArray) (w : World) (hs : s.size ≤ maxLen) (hbm : b.size ≤ maxLen) :
    Calls Try.prog 14 #[.string s, .int .i64 off, .string b] w (RetW (.tuple #[.string (writeV s off b).1, .int .i64 (writeV s off b).2]) w) := by
  have HL := Lib.hid (fun w => long_any s w hs)
  have HB := Lib.hid (bad_any off)
  unfold maxLen at hbm
  cases hl : longB s with
  | true =>
    rw [hl] at HL
    have HR : Hid (writeV s off b = (s, 1)) := by unfold Hid writeV; rw [if_pos hl]
    clear hl
    go_enter Try.func14, Try.ntmps14
    go_wp2_with (go_at_call 32; refine (HL.out _).mono ?_; rintro e w' ⟨rfl, rfl⟩)
    go_ret2
    rw [HR.out]
    exact ⟨rfl, Below.refl _ _⟩
  | false =>
    rw [hl] at HL
    have hl' : ¬ longB s = true := by rw [hl]; simp
    have hsz : s.size ≤ 128 := by rw [longB_iff] at hl'; omega
    cases hb : badB off with
    | true =>
      rw [hb] at HB
      have HR : Hid (writeV s off b = (s, 2)) := by unfold Hid writeV; rw [if_neg hl', if_pos (Or.inl hb)]
      clear hl hl' hb
      go_enter Try.func14, Try.ntmps14
      go_wp2_with (first | (go_at_call 32; refine (HL.out _).mono ?_; rintro e w' ⟨rfl, rfl⟩) | (go_at_call 33; refine (HB.out _).mono ?_; rintro e w' ⟨rfl, rfl⟩))
      go_ret2
      rw [HR.out]
      exact ⟨rfl, Below.refl _ _⟩
    | false =>
      rw [hb] at HB
      have hb' : ¬ badB off = true := by rw [hb]; simp
      have hof : ¬ (off < 0 ∨ 128 < off) := by rw [← badB_iff]; exact hb'
      obtain ⟨o, rfl⟩ := Int.eq_ofNat_of_zero_le (show 0 ≤ off by omega)
      have ho : o ≤ 128 := by omega
      by_cases hbig : 128 - (o : Int) < (b.size : Int)
      · have HR : Hid (writeV s (o : Int) b = (s, 2)) := by unfold Hid writeV; rw [if_neg hl', if_pos (Or.inr hbig)]
        clear hl hl' hb hb' hof
        go_enter Try.func14, Try.ntmps14
        go_wp2_with (first | (go_at_call 32; refine (HL.out _).mono ?_; rintro e w' ⟨rfl, rfl⟩) | (go_at_call 33; refine (HB.out _).mono ?_; rintro e w' ⟨rfl, rfl⟩))
        go_ret2
        rw [HR.out]
        exact ⟨rfl, Below.refl _ _⟩
      · have hbig2 : (b.size : Int) ≤ 128 - (o : Int) := by omega
        have hno : ¬ (badB (o : Int) = true ∨ 128 - (o : Int) < (b.size : Int)) := fun h => h.elim hb' hbig
        by_cases hz : b.size = 0
        · have HR : Hid (writeV s (o : Int) b = (s, 0)) := by unfold Hid writeV; rw [if_neg hl', if_neg hno, if_pos hz]
          have hbe : b = ⟨#[]⟩ := ByteArray.ext (Array.eq_empty_of_size_eq_zero hz)
          subst hbe
          clear hl hl' hb hb' hof hno
          go_enter Try.func14, Try.ntmps14
          go_wp2_with (first | (go_at_call 32; refine (HL.out _).mono ?_; rintro e w' ⟨rfl, rfl⟩) | (go_at_call 33; refine (HB.out _).mono ?_; rintro e w' ⟨rfl, rfl⟩))
          go_ret2
          rw [HR.out]
          exact ⟨rfl, Below.refl _ _⟩
        · have e1 : ((o : Int)).toNat = o := by omega
          have HR : Hid (writeV s (o : Int) b = (putS s o b, 0)) := by unfold Hid writeV; rw [if_neg hl', if_neg hno, if_neg hz, e1]
          have HZ := Lib.hid (fun w => put_any s o b w (by omega) (by omega) (by omega))
          have hne : b.toList.isEmpty = false := by
            have : b.toList.length = b.size := by rw [ByteArray.toList_eq]; exact Array.length_toList
            cases h : b.toList with
            | nil => rw [h] at this; simp at this; omega
            | cons x r => rfl
          clear hl hl' hb hb' hof hno e1 hz
          go_enter Try.func14, Try.ntmps14
          go_wp2_with (first | (go_at_call 32; refine (HL.out _).mono ?_; rintro e w' ⟨rfl, rfl⟩) | (go_at_call 33; refine (HB.out _).mono ?_; rintro e w' ⟨rfl, rfl⟩) | (go_at_call 34; refine (HZ.out _).mono ?_; rintro e w' ⟨rfl, hbw⟩))
          go_ret2
          rw [HR.out]
          exact ⟨rfl, hbw⟩
end Go.Proofs.Ytebdnnfaghhpkaa
