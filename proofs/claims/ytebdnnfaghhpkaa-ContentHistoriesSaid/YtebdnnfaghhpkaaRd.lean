/- Reading: the program's answer and the document's. -/
import Derived.Test.YtebdnnfaghhpkaaPut
namespace Go.Proofs.Ytebdnnfaghhpkaa
open Go.ChangeShapes Go.WideShapes Go.ChangeAt Go.RowKit

def readV (s : ByteArray) (off n : Int) : ByteArray × Int :=
  if longB s = true then (⟨#[]⟩, 1) else if badB off = true ∨ n < 0 then (⟨#[]⟩, 2)
  else (s.extract (min off.toNat s.size) (min off.toNat s.size + min n.toNat (s.size - min off.toNat s.size)), 0)
theorem badB_iff {n : Int} : badB n = true ↔ (n < 0 ∨ 128 < n) := by simp [badB]
theorem longB_iff {s : ByteArray} : longB s = true ↔ 128 < s.size := by simp [longB]

set_option maxHeartbeats 2000000 in
theorem read_any (s : ByteArray) (off n : Int) (w : World) (hs : s.size ≤ maxLen) :
    Calls Try.prog 12 #[.string s, .int .i64 off, .int .i64 n] w fun e w' => e = .returned (.tuple #[.string (readV s off n).1, .int .i64 (readV s off n).2]) ∧ w = w' := by
  have HL := Lib.hid (fun w => long_any s w hs)
  have HB := Lib.hid (bad_any off)
  cases hl : longB s with
  | true =>
    rw [hl] at HL
    have HR : Hid (readV s off n = (⟨#[]⟩, 1)) := by unfold Hid readV; rw [if_pos hl]
    clear hl
    go_enter Try.func12, Try.ntmps12
    go_wp2_with (go_at_call 32; refine (HL.out _).mono ?_; rintro e w' ⟨rfl, rfl⟩)
    go_ret2
    rw [HR.out]
    exact ⟨rfl, rfl⟩
  | false =>
    rw [hl] at HL
    have hl' : ¬ longB s = true := by rw [hl]; simp
    have hsz : s.size ≤ 128 := by rw [longB_iff] at hl'; omega
    cases hb : badB off with
    | true =>
      rw [hb] at HB
      have HR : Hid (readV s off n = (⟨#[]⟩, 2)) := by unfold Hid readV; rw [if_neg hl', if_pos (Or.inl hb)]
      clear hl hl' hb
      go_enter Try.func12, Try.ntmps12
      go_wp2_with (first | (go_at_call 32; refine (HL.out _).mono ?_; rintro e w' ⟨rfl, rfl⟩) | (go_at_call 33; refine (HB.out _).mono ?_; rintro e w' ⟨rfl, rfl⟩))
      go_ret2
      rw [HR.out]
      exact ⟨rfl, rfl⟩
    | false =>
      rw [hb] at HB
      have hb' : ¬ badB off = true := by rw [hb]; simp
      have hof : ¬ (off < 0 ∨ 128 < off) := by rw [← badB_iff]; exact hb'
      by_cases hn : n < 0
      · have HR : Hid (readV s off n = (⟨#[]⟩, 2)) := by unfold Hid readV; rw [if_neg hl', if_pos (Or.inr hn)]
        clear hl hl' hb hb' hof
        go_enter Try.func12, Try.ntmps12
        go_wp2_with (first | (go_at_call 32; refine (HL.out _).mono ?_; rintro e w' ⟨rfl, rfl⟩) | (go_at_call 33; refine (HB.out _).mono ?_; rintro e w' ⟨rfl, rfl⟩))
        go_ret2
        rw [HR.out]
        exact ⟨rfl, rfl⟩
      · obtain ⟨o, rfl⟩ := Int.eq_ofNat_of_zero_le (show 0 ≤ off by omega)
        obtain ⟨m, rfl⟩ := Int.eq_ofNat_of_zero_le (show 0 ≤ n by omega)
        have e1 : ((o : Int)).toNat = o := by omega
        have e2 : ((m : Int)).toNat = m := by omega
        have HR : Hid (readV s (o : Int) (m : Int) = (s.extract (min o s.size) (min o s.size + min m (s.size - min o s.size)), 0)) := by
          unfold Hid readV
          rw [if_neg hl', if_neg (fun h => h.elim hb' hn), e1, e2]
        have q1 : min (o : Int) (s.size : Int) = ((min o s.size : Nat) : Int) := by omega
        have q2 : min (m : Int) ((s.size : Int) - ((min o s.size : Nat) : Int)) = ((min m (s.size - min o s.size) : Nat) : Int) := by omega
        have q3 : min o s.size ≤ s.size := by omega
        have q4 : min o s.size + min m (s.size - min o s.size) ≤ s.size := by omega
        have hnn : (0 : Int) ≤ (m : Int) := by omega
        generalize min o s.size = q at *
        generalize min m (s.size - q) = r at *
        clear hl hl' hb hb' hof hn e1 e2
        have q5 : (q : Int) ≤ (s.size : Int) := by omega
        have q6 : (q : Int) + (r : Int) ≤ (s.size : Int) := by omega
        go_enter Try.func12, Try.ntmps12
        go_wp2_with (first | (go_at_call 32; refine (HL.out _).mono ?_; rintro e w' ⟨rfl, rfl⟩) | (go_at_call 33; refine (HB.out _).mono ?_; rintro e w' ⟨rfl, rfl⟩))
        go_ret2
        rw [HR.out]
        exact ⟨rfl, rfl⟩
end Go.Proofs.Ytebdnnfaghhpkaa
