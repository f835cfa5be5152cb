/- Writing as the document has it. -/
import Derived.Test.YtebdnnfaghhpkaaWrf
namespace Go.Proofs.Ytebdnnfaghhpkaa
open Go.ChangeShapes Go.WideShapes Go.ChangeAt Go.RowKit

set_option maxHeartbeats 4000000 in
theorem writeR_any (s : ByteArray) (off : Int) (b : ByteArray) (w : World) (hs : s.size ≤ maxLen) (hbm : b.size ≤ maxLen) :
    Calls Try.prog 15 #[.string s, .int .i64 off, .string b] w (RetW (.tuple #[.string (writeV s off b).1, .int .i64 (writeV s off b).2]) w) := by
  unfold maxLen at hs hbm
  by_cases hl : longB s = true
  · have HR : Hid (writeV s off b = (s, 1)) := by unfold Hid writeV; rw [if_pos hl]
    have h1 : (128 : Int) < (s.size : Int) := by rw [longB_iff] at hl; omega
    clear hl
    go_enter Try.func15, Try.ntmps15
    go_wp2_with fail
    go_ret2
    rw [HR.out]
    exact ⟨rfl, Below.refl _ _⟩
  · have h1 : (s.size : Int) ≤ 128 := by rw [longB_iff] at hl; omega
    by_cases hb : badB off = true ∨ 128 - off < (b.size : Int)
    · have HR : Hid (writeV s off b = (s, 2)) := by unfold Hid writeV; rw [if_neg hl, if_pos hb]
      have HB : Hid ((off < 0 ∨ 128 < off) ∨ 128 - off < (b.size : Int)) := by rw [badB_iff] at hb; exact hb
      clear hl hb
      go_enter Try.func15, Try.ntmps15
      go_wp2_with fail
      all_goals
        first
        | (exfalso; have := HB.out; omega)
        | (go_ret2
           rw [HR.out]
           exact ⟨rfl, Below.refl _ _⟩)
    · have hof : ¬ ((off < 0 ∨ 128 < off) ∨ 128 - off < (b.size : Int)) := by rw [← badB_iff]; exact hb
      obtain ⟨o, rfl⟩ := Int.eq_ofNat_of_zero_le (show 0 ≤ off by omega)
      have ho : (o : Int) ≤ 128 := by omega
      have hob : (b.size : Int) ≤ 128 - (o : Int) := by omega
      have e1 : ((o : Int)).toNat = o := by omega
      by_cases hz : b.size = 0
      · have HR : Hid (writeV s (o : Int) b = (s, 0)) := by unfold Hid writeV; rw [if_neg hl, if_neg hb, if_pos hz]
        have hbe : b = ⟨#[]⟩ := ByteArray.ext (Array.eq_empty_of_size_eq_zero hz)
        subst hbe
        clear hl hb hof e1
        go_enter Try.func15, Try.ntmps15
        go_wp2_with fail
        go_ret2
        rw [HR.out]
        exact ⟨rfl, Below.refl _ _⟩
      · have hr : writeV s (o : Int) b = (putS s o b, 0) := by unfold writeV; rw [if_neg hl, if_neg hb, if_neg hz, e1]
        have hbp : (0 : Int) < (b.size : Int) := by omega
        have hb0 : ((b.size : Int) == 0) = false := by rw [beq_eq_false_iff_ne]; omega
        by_cases hlt : s.size < o
        · have h2 : (s.size : Int) < (o : Int) := by omega
          obtain ⟨_, k2, k3, k4, k5⟩ := write_ref s o b (s ++ zeros (o - s.size)) (by rw [if_pos hlt])
          have HR : Hid (writeV s (o : Int) b = ((s ++ zeros (o - s.size)).extract 0 o ++ b, 0)) := by unfold Hid; rw [hr, k2 (by rw [k5]; omega)]
          have hzz := fun w => zerosR_any (o - s.size) w (by omega)
          rw [show ((o - s.size : Nat) : Int) = (o : Int) - (s.size : Int) from by omega] at hzz
          have hzs := size_zeros (o - s.size)
          generalize zeros (o - s.size) = z at *
          have q1 : s.size + z.size ≤ 9223372036854775807 := by omega
          have q2 : s.size + z.size = o := by omega
          have q3 : (s ++ z).size = o := by rw [ByteArray.size_append]; exact q2
          generalize hS1 : s ++ z = s1 at *
          have HS1 := Lib.hid hS1
          have q4 : (s1.extract 0 o).size + b.size ≤ 9223372036854775807 := by rw [size_extract]; omega
          have q5 : (o : Int) ≤ (s1.size : Int) := by omega
          have HZ := Lib.hid hzz
          have HQ := Lib.hid (And.intro k3 q3)
          clear hl hb hof hr e1 hzz hzs k2 k3 k4 k5 hS1 q2 q3
          go_enter Try.func15, Try.ntmps15
          go_wp2_with (go_at_call 35; refine (HZ.out _).mono ?_; rintro e w' ⟨rfl, hbw⟩; have hsub := HS1.out)
          all_goals
            first
            | (exfalso; have := HQ.out.2; omega)
            | (go_ret2
               rw [HR.out]
               exact ⟨rfl, hbw⟩)
        · have h2 : (o : Int) ≤ (s.size : Int) := by omega
          obtain ⟨k1, k2, k3, k4, k5⟩ := write_ref s o b s (by rw [if_neg hlt])
          have q0 : min o s.size = o := by omega
          have q4 : (s.extract 0 o).size + b.size ≤ 9223372036854775807 := by rw [size_extract]; omega
          by_cases hgt : o + b.size < s.size
          · have HR : Hid (writeV s (o : Int) b = (s.extract 0 o ++ b ++ s.extract (o + b.size) s.size, 0)) := by
              unfold Hid
              rw [hr, ← k1 hgt, k3]
            have h3 : (o : Int) + (b.size : Int) < (s.size : Int) := by omega
            clear hl hb hof hr e1 k1 k2 k3 k4 k5
            go_enter Try.func15, Try.ntmps15
            go_wp2_with fail
            all_goals
              first
              | (exfalso; omega)
              | (go_ret2
                 rw [HR.out]
                 exact ⟨by first | rfl | (rw [q0]; rfl), Below.refl _ _⟩)
          · have HR : Hid (writeV s (o : Int) b = (s.extract 0 o ++ b, 0)) := by unfold Hid; rw [hr, k2 (by omega)]
            have h3 : (s.size : Int) ≤ (o : Int) + (b.size : Int) := by omega
            clear hl hb hof hr e1 k1 k2 k3 k4 k5
            go_enter Try.func15, Try.ntmps15
            go_wp2_with fail
            all_goals
              first
              | (exfalso; omega)
              | (go_ret2
                 rw [HR.out]
                 exact ⟨rfl, Below.refl _ _⟩)
end Go.Proofs.Ytebdnnfaghhpkaa
