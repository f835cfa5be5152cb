/- Punching: the program's answer. -/
import Derived.Test.YtebdnnfaghhpkaaWt
namespace Go.Proofs.Ytebdnnfaghhpkaa
open Go.ChangeShapes Go.WideShapes Go.ChangeAt Go.RowKit

set_option maxHeartbeats 4000000 in
theorem punch_any (s : ByteArray) (off n : Int) (w : World) (hs : s.size ≤ maxLen) :
    Calls Try.prog 18 #[.string s, .int .i64 off, .int .i64 n] w (RetW (.tuple #[.string (punchV s off n).1, .int .i64 (punchV s off n).2]) w) := by
  have HL := Lib.hid (fun w => long_any s w hs)
  have HB := Lib.hid (bad_any off)
  cases hl : longB s with
  | true =>
    rw [hl] at HL
    have HR : Hid (punchV s off n = (s, 1)) := by unfold Hid punchV; rw [if_pos hl]
    clear hl
    go_enter Try.func18, Try.ntmps18
    go_wp2_with (go_at_call 32; refine (HL.out _).mono ?_; rintro e w' ⟨rfl, rfl⟩)
    go_ret2
    rw [HR.out]
    exact ⟨rfl, Below.refl _ _⟩
  | false =>
    rw [hl] at HL
    have hl' : ¬ longB s = true := by rw [hl]; simp
    have hsz : s.size ≤ 128 := by rw [longB_iff] at hl'; omega
    cases hb : badB off with
    | true =>
      rw [hb] at HB
      have HR : Hid (punchV s off n = (s, 2)) := by unfold Hid punchV; rw [if_neg hl', if_pos (Or.inl hb)]
      clear hl hl' hb
      go_enter Try.func18, Try.ntmps18
      go_wp2_with (first | (go_at_call 32; refine (HL.out _).mono ?_; rintro e w' ⟨rfl, rfl⟩) | (go_at_call 33; refine (HB.out _).mono ?_; rintro e w' ⟨rfl, rfl⟩))
      go_ret2
      rw [HR.out]
      exact ⟨rfl, Below.refl _ _⟩
    | false =>
      rw [hb] at HB
      have hb' : ¬ badB off = true := by rw [hb]; simp
      have hof : ¬ (off < 0 ∨ 128 < off) := by rw [← badB_iff]; exact hb'
      obtain ⟨o, rfl⟩ := Int.eq_ofNat_of_zero_le (show 0 ≤ off by omega)
      have ho : o ≤ 128 := by omega
      by_cases hn : n < 0
      · have HR : Hid (punchV s (o : Int) n = (s, 2)) := by unfold Hid punchV; rw [if_neg hl', if_pos (Or.inr hn)]
        clear hl hl' hb hb' hof
        go_enter Try.func18, Try.ntmps18
        go_wp2_with (first | (go_at_call 32; refine (HL.out _).mono ?_; rintro e w' ⟨rfl, rfl⟩) | (go_at_call 33; refine (HB.out _).mono ?_; rintro e w' ⟨rfl, rfl⟩))
        go_ret2
        rw [HR.out]
        exact ⟨rfl, Below.refl _ _⟩
      · have hno : ¬ (badB (o : Int) = true ∨ n < 0) := fun h => h.elim hb' hn
        have hn2 : 0 ≤ n := by omega
        by_cases hz : min n ((s.size : Int) - (o : Int)) ≤ 0
        · have HR : Hid (punchV s (o : Int) n = (s, 0)) := by unfold Hid punchV; rw [if_neg hl', if_neg hno, if_pos hz]
          clear hl hl' hb hb' hof hno hn
          go_enter Try.func18, Try.ntmps18
          go_wp2_with (first | (go_at_call 32; refine (HL.out _).mono ?_; rintro e w' ⟨rfl, rfl⟩) | (go_at_call 33; refine (HB.out _).mono ?_; rintro e w' ⟨rfl, rfl⟩))
          go_ret2
          rw [HR.out]
          exact ⟨rfl, Below.refl _ _⟩
        · have e1 : ((o : Int)).toNat = o := by omega
          obtain ⟨r, hr⟩ := Int.eq_ofNat_of_zero_le (show 0 ≤ min n ((s.size : Int) - (o : Int)) by omega)
          have hr2 : (min n ((s.size : Int) - (o : Int))).toNat = r := by omega
          have HR : Hid (punchV s (o : Int) n = (putS s o (sizedS ⟨#[]⟩ r), 0)) := by unfold Hid punchV; rw [if_neg hl', if_neg hno, if_neg hz, e1, hr2]
          have hrl : (r : Int) ≤ 128 := by omega
          have hrp : (0 : Int) < (r : Int) := by omega
          have hz0 : (⟨#[]⟩ : ByteArray).size = 0 := rfl
          have hzs : (sizedS ⟨#[]⟩ r).size = r := sizedS_size _ _
          have HY := Lib.hid (fun w => sized_any ⟨#[]⟩ r w (by rw [hz0]; omega) (by omega))
          have HZ := Lib.hid (fun w => put_any s o (sizedS ⟨#[]⟩ r) w (by omega) (by omega) (by omega))
          generalize sizedS ⟨#[]⟩ r = zz at *
          clear hl hl' hb hb' hof hno hn e1 hz hr2 hz0 hzs
          go_enter Try.func18, Try.ntmps18
          go_wp2_with (first | (go_at_call 32; refine (HL.out _).mono ?_; rintro e w' ⟨rfl, rfl⟩) | (go_at_call 33; refine (HB.out _).mono ?_; rintro e w' ⟨rfl, rfl⟩) | (go_at_call 36; refine (HY.out _).mono ?_; rintro e w1 ⟨rfl, hb1⟩) | (go_at_call 34; refine (HZ.out _).mono ?_; rintro e w2 ⟨rfl, hb2⟩))
          go_ret2
          rw [HR.out]
          exact ⟨rfl, hb1.trans (hb2.mono hb1.size)⟩

theorem byte_any (s : ByteArray) (i : Int) (w : World) (hs : s.size ≤ maxLen) : Calls Try.prog 20 #[.string s, .int .i64 i] w fun e w' => e = .returned (.int .u8 (if i < 0 then 0 else ((s.data.toList.getD i.toNat 0).toNat : Int))) ∧ w = w' := by
  unfold maxLen at hs
  by_cases h0 : i < 0
  · rw [if_pos h0]
    go_enter Try.func20, Try.ntmps20
    go_wp2_with fail
    go_ret
    exact ⟨rfl, rfl⟩
  · rw [if_neg h0]
    obtain ⟨k, rfl⟩ := Int.eq_ofNat_of_zero_le (show 0 ≤ i by omega)
    have e1 : ((k : Int)).toNat = k := by omega
    rw [e1]
    have hl : s.data.toList.length = s.size := Array.length_toList
    by_cases h1 : k < s.size
    · have he : Hid ((s[k].toNat : Int) = ((s.data.toList.getD k 0).toNat : Int)) := by
        unfold Hid
        simp [List.getD, List.getElem?_eq_getElem (show k < s.data.toList.length by omega), ByteArray.getElem_eq_getElem_data]
      generalize ((s.data.toList.getD k 0).toNat : Int) = v at *
      clear hl e1
      go_enter Try.func20, Try.ntmps20
      go_wp2_with fail
      go_ret
      exact ⟨by rw [← he.out]; rfl, rfl⟩
    · have he : (s.data.toList.getD k 0) = 0 := by simp [List.getD, List.getElem?_eq_none (show s.data.toList.length ≤ k by omega)]
      rw [he]
      have h2 : (s.size : Int) ≤ (k : Int) := by omega
      clear hl e1 he
      go_enter Try.func20, Try.ntmps20
      go_wp2_with fail
      go_ret
      exact ⟨rfl, rfl⟩
end Go.Proofs.Ytebdnnfaghhpkaa
