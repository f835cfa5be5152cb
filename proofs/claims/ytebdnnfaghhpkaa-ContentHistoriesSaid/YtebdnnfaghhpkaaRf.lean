/- Writing and truncating: the document's answer; the contents that the law makes. -/
import Derived.Test.YtebdnnfaghhpkaaPl
namespace Go.Proofs.Ytebdnnfaghhpkaa
open Go.ChangeShapes Go.WideShapes Go.ChangeAt Go.RowKit

set_option maxHeartbeats 1000000 in
theorem zerosR_any (n : Nat) (w : World) (hn : n ≤ 100000) : Calls Try.prog 35 #[.int .i64 n] w (RetW (.string (zeros n)) w) := by
  have hmk := make_bytes (n : Int) (by omega) (by omega)
  rw [show ((n : Int)).toNat = n from by omega] at hmk
  have hcv := conv_zeros n w
  go_enter Try.func35, Try.ntmps35
  go_wp2_with fail
  go_ret
  exact RetW.mk rfl ((Below.refl _ _).alloc (Nat.le_refl _) _)

set_option maxHeartbeats 2000000 in
theorem truncR_any (s : ByteArray) (n : Int) (w : World) (hs : s.size ≤ maxLen) :
    Calls Try.prog 17 #[.string s, .int .i64 n] w (RetW (.tuple #[.string (truncV s n).1, .int .i64 (truncV s n).2]) w) := by
  unfold maxLen at hs
  by_cases hl : longB s = true
  · have HR : Hid (truncV s n = (s, 1)) := by unfold Hid truncV; rw [if_pos hl]
    have h1 : (128 : Int) < (s.size : Int) := by rw [longB_iff] at hl; omega
    clear hl
    go_enter Try.func17, Try.ntmps17
    go_wp2_with fail
    go_ret2
    rw [HR.out]
    exact ⟨rfl, Below.refl _ _⟩
  · have h1 : (s.size : Int) ≤ 128 := by rw [longB_iff] at hl; omega
    by_cases hb : badB n = true
    · have HR : Hid (truncV s n = (s, 2)) := by unfold Hid truncV; rw [if_neg hl, if_pos hb]
      have HB : Hid (n < 0 ∨ 128 < n) := badB_iff.1 hb
      clear hl hb
      go_enter Try.func17, Try.ntmps17
      go_wp2_with fail
      all_goals
        first
        | (exfalso; have := HB.out; omega)
        | (go_ret2
           rw [HR.out]
           exact ⟨rfl, Below.refl _ _⟩)
    · have hof : ¬ (n < 0 ∨ 128 < n) := by rw [← badB_iff]; exact hb
      obtain ⟨m, rfl⟩ := Int.eq_ofNat_of_zero_le (show 0 ≤ n by omega)
      have ho : (m : Int) ≤ 128 := by omega
      have e1 : ((m : Int)).toNat = m := by omega
      have hr : truncV s (m : Int) = (sizedS s m, 0) := by unfold truncV; rw [if_neg hl, if_neg hb, e1]
      by_cases hge : m ≤ s.size
      · have HR : Hid (truncV s (m : Int) = (s.extract 0 m, 0)) := by unfold Hid; rw [hr]; unfold sizedS; rw [if_pos hge]
        have h2 : (m : Int) ≤ (s.size : Int) := by omega
        clear hl hb hof hr e1
        go_enter Try.func17, Try.ntmps17
        go_wp2_with fail
        go_ret2
        rw [HR.out]
        exact ⟨rfl, Below.refl _ _⟩
      · have HR : Hid (truncV s (m : Int) = (s ++ zeros (m - s.size), 0)) := by unfold Hid; rw [hr]; unfold sizedS; rw [if_neg hge]
        have h2 : (s.size : Int) < (m : Int) := by omega
        have hz := fun w => zerosR_any (m - s.size) w (by omega)
        rw [show ((m - s.size : Nat) : Int) = (m : Int) - (s.size : Int) from by omega] at hz
        have hzs := size_zeros (m - s.size)
        generalize zeros (m - s.size) = z at *
        have hlen : s.size + z.size ≤ 9223372036854775807 := by omega
        have HZ := Lib.hid hz
        clear hl hb hof hr e1 hz hzs
        go_enter Try.func17, Try.ntmps17
        go_wp2_with (go_at_call 35; refine (HZ.out _).mono ?_; rintro e w' ⟨rfl, hbw⟩)
        go_ret2
        rw [HR.out]
        exact ⟨rfl, hbw⟩

/-- the document's way of writing -/
theorem write_ref (s : ByteArray) (o : Nat) (b : ByteArray) (s1 : ByteArray) (h1 : s1 = if s.size < o then s ++ zeros (o - s.size) else s) :
    (o + b.size < s1.size → s1.extract 0 o ++ b ++ s1.extract (s1.extract 0 o ++ b).size s1.size = putS s o b) ∧ (s1.size ≤ o + b.size → s1.extract 0 o ++ b = putS s o b) ∧ (s1.extract 0 o ++ b).size = o + b.size ∧ o ≤ s1.size ∧ s1.size = max s.size o := by
  have hsz : s1.size = max s.size o := by
    subst h1
    split
    · rw [ByteArray.size_append, size_zeros]; omega
    · omega
  have hbt : ∀ i, bat s1 i = bat s i := by
    intro i
    subst h1
    split
    · rw [bat_append, bat_zeros]
      by_cases h : i < s.size
      · rw [if_pos h]
      · rw [if_neg h, bat_out (by omega)]
    · rfl
  have ha : (s1.extract 0 o).size = o := by rw [size_extract]; omega
  have hab : (s1.extract 0 o ++ b).size = o + b.size := by rw [ByteArray.size_append, ha]
  refine ⟨fun h => ?_, fun h => ?_, hab, by omega, hsz⟩
  · apply bat_ext
    · rw [putS_size, ByteArray.size_append, hab, size_extract]; omega
    · intro i _
      rw [bat_put, bat_append, hab, bat_append, ha, bat_extract, bat_extract, Nat.zero_add, hbt]
      by_cases c1 : i < o
      · rw [if_pos (by omega), if_pos c1, if_pos c1, if_neg (by omega)]
      · by_cases c2 : i < o + b.size
        · rw [if_pos c2, if_neg c1, if_pos ⟨by omega, c2⟩]
        · have e : (if o ≤ i ∧ i < o + b.size then bat b (i - o) else bat s i) = bat s i := if_neg (by omega)
          rw [e, if_neg c2, show o + b.size + (i - (o + b.size)) = i from by omega]
          by_cases c3 : i < s1.size
          · rw [if_pos c3, hbt]
          · rw [if_neg c3, bat_out (by omega)]
  · apply bat_ext
    · rw [putS_size, hab]; omega
    · intro i hi
      rw [hab] at hi
      rw [bat_put, bat_append, ha, bat_extract, Nat.zero_add, hbt]
      by_cases c1 : i < o
      · rw [if_pos c1, if_pos c1, if_neg (by omega)]
      · rw [if_neg c1, if_pos ⟨by omega, by omega⟩]
end Go.Proofs.Ytebdnnfaghhpkaa
