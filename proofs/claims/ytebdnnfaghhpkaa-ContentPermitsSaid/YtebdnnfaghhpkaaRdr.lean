/- Reading: the document's answer. -/
import Derived.Test.YtebdnnfaghhpkaaRd
namespace Go.Proofs.Ytebdnnfaghhpkaa
open Go.ChangeShapes Go.WideShapes Go.ChangeAt Go.RowKit

theorem extract_end (s : ByteArray) (k : Nat) : s.extract s.size (s.size + k) = ⟨#[]⟩ := by
  apply ByteArray.ext
  rw [ByteArray.data_extract]
  apply Array.eq_empty_of_size_eq_zero
  rw [Array.size_extract]
  have : s.data.size = s.size := rfl
  omega
set_option maxHeartbeats 2000000 in
theorem readR_any (s : ByteArray) (off n : Int) (w : World) (hs : s.size ≤ maxLen) :
    Calls Try.prog 13 #[.string s, .int .i64 off, .int .i64 n] w fun e w' => e = .returned (.tuple #[.string (readV s off n).1, .int .i64 (readV s off n).2]) ∧ w = w' := by
  by_cases hl : longB s = true
  · have HR : Hid (readV s off n = (⟨#[]⟩, 1)) := by unfold Hid readV; rw [if_pos hl]
    have h1 : (128 : Int) < (s.size : Int) := by rw [longB_iff] at hl; omega
    clear hl
    go_enter Try.func13, Try.ntmps13
    go_wp2_with fail
    go_ret2
    rw [HR.out]
    exact ⟨rfl, rfl⟩
  · have h1 : (s.size : Int) ≤ 128 := by rw [longB_iff] at hl; omega
    by_cases hb : badB off = true ∨ n < 0
    · have HR : Hid (readV s off n = (⟨#[]⟩, 2)) := by unfold Hid readV; rw [if_neg hl, if_pos hb]
      have HB : Hid ((off < 0 ∨ 128 < off) ∨ n < 0) := by rw [badB_iff] at hb; exact hb
      clear hl hb
      go_enter Try.func13, Try.ntmps13
      go_wp2_with fail
      all_goals
        first
        | (exfalso; have := HB.out; omega)
        | (go_ret2
           rw [HR.out]
           exact ⟨rfl, rfl⟩)
    · have hof : ¬ ((off < 0 ∨ 128 < off) ∨ n < 0) := by rw [← badB_iff]; exact hb
      obtain ⟨o, rfl⟩ := Int.eq_ofNat_of_zero_le (show 0 ≤ off by omega)
      obtain ⟨m, rfl⟩ := Int.eq_ofNat_of_zero_le (show 0 ≤ n by omega)
      have ho : (o : Int) ≤ 128 := by omega
      have e1 : ((o : Int)).toNat = o := by omega
      have e2 : ((m : Int)).toNat = m := by omega
      have hr : readV s (o : Int) (m : Int) = (s.extract (min o s.size) (min o s.size + min m (s.size - min o s.size)), 0) := by
        unfold readV
        rw [if_neg hl, if_neg hb, e1, e2]
      by_cases hge : s.size ≤ o
      · have HR : Hid (readV s (o : Int) (m : Int) = (⟨#[]⟩, 0)) := by
          unfold Hid
          rw [hr, show min o s.size = s.size from by omega, extract_end]
        have h2 : (s.size : Int) ≤ (o : Int) := by omega
        have hnn : (0 : Int) ≤ (m : Int) := by omega
        clear hl hb hof hr e1 e2
        go_enter Try.func13, Try.ntmps13
        go_wp2_with fail
        go_ret2
        rw [HR.out]
        exact ⟨rfl, rfl⟩
      · have q0 : min o s.size = o := by omega
        rw [q0] at hr
        have HR := Lib.hid hr
        have q2 : min (m : Int) ((s.size : Int) - (o : Int)) = ((min m (s.size - o) : Nat) : Int) := by omega
        have q4 : o + min m (s.size - o) ≤ s.size := by omega
        have h2 : (o : Int) < (s.size : Int) := by omega
        have hnn : (0 : Int) ≤ (m : Int) := by omega
        generalize min m (s.size - o) = r at *
        clear hl hb hof hr e1 e2 q0
        have q6 : (o : Int) + (r : Int) ≤ (s.size : Int) := by omega
        go_enter Try.func13, Try.ntmps13
        go_wp2_with fail
        go_ret2
        rw [HR.out]
        exact ⟨rfl, rfl⟩
end Go.Proofs.Ytebdnnfaghhpkaa
