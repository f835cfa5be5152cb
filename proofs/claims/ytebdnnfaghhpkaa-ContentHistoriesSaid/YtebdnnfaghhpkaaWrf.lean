/- Writing as the document has it; bytes; the contents that the law makes. -/
import Derived.Test.YtebdnnfaghhpkaaRf
namespace Go.Proofs.Ytebdnnfaghhpkaa
open Go.ChangeShapes Go.WideShapes Go.ChangeAt Go.RowKit

theorem byteR_any (s : ByteArray) (i : Int) (w : World) (hs : s.size ≤ maxLen) : Calls Try.prog 21 #[.string s, .int .i64 i] w fun e w' => e = .returned (.int .u8 (if i < 0 then 0 else ((s.data.toList.getD i.toNat 0).toNat : Int))) ∧ w = w' := by
  unfold maxLen at hs
  by_cases h0 : i < 0
  · rw [if_pos h0]
    go_enter Try.func21, Try.ntmps21
    go_wp2_with fail
    go_ret
    exact ⟨rfl, rfl⟩
  · rw [if_neg h0]
    obtain ⟨k, rfl⟩ := Int.eq_ofNat_of_zero_le (show 0 ≤ i by omega)
    have e1 : ((k : Int)).toNat = k := by omega
    rw [e1]
    have hl : s.data.toList.length = s.size := Array.length_toList
    by_cases h1 : k < s.size
    · have he : Hid ((s[k].toNat : Int) = ((s.data.toList.getD k 0).toNat : Int)) := by
        unfold Hid
        simp [List.getD, List.getElem?_eq_getElem (show k < s.data.toList.length by omega), ByteArray.getElem_eq_getElem_data]
      generalize ((s.data.toList.getD k 0).toNat : Int) = v at *
      clear hl e1
      go_enter Try.func21, Try.ntmps21
      go_wp2_with fail
      go_ret
      exact ⟨by rw [← he.out]; rfl, rfl⟩
    · have he : (s.data.toList.getD k 0) = 0 := by simp [List.getD, List.getElem?_eq_none (show s.data.toList.length ≤ k by omega)]
      rw [he]
      have h2 : (s.size : Int) ≤ (k : Int) := by omega
      clear hl e1 he
      go_enter Try.func21, Try.ntmps21
      go_wp2_with fail
      go_ret
      exact ⟨rfl, rfl⟩

set_option maxHeartbeats 1000000 in
theorem text_any (w0 w : World) (t : Nat) (a : Option Addr) (len cap : Nat) (h : TP w0 t a len cap w) :
    Calls Try.prog 8 #[.pointer (some ⟨t, 0, none⟩)] w fun e w' => ∃ s : ByteArray, s.size ≤ 1000 ∧ e = .returned (.string s) ∧ Tock t w w' ∧ TP w0 t a len cap w' := by
  go_enter Try.func8, Try.ntmps8
  go_wp2_with fail
  refine (next_tp 20 _ _ _ _ _ _ (by omega) (by omega) h).mono ?_
  rintro e w1 ⟨x, xa, xb, rfl, hk, h1⟩
  have HK := Lib.hid hk.tock
  clear hk h
  by_cases x0 : x = 0
  · subst x0
    go_wp2_with fail
    refine (next_tp 3 _ _ _ _ _ _ (by omega) (by omega) h1).mono ?_
    rintro e w2 ⟨y, ya, yb, rfl, hk, h2⟩
    have HK2 := Lib.hid (HK.out.trans hk.tock)
    clear hk h1 HK
    obtain ⟨n, rfl⟩ := Int.eq_ofNat_of_zero_le ya
    go_wp2_with fail
    have hb := bytes_any (128 + n) w0 w2 t a len cap (by omega) h2
    rw [show ((128 + n : Nat) : Int) = 128 + (n : Int) from by omega] at hb
    refine hb.mono ?_
    rintro e w3 ⟨s, hs, rfl, hk, h3⟩
    have HK3 := Lib.hid (HK2.out.trans hk)
    have HS : Hid (s.size ≤ 1000) := by unfold Hid; omega
    clear hk h2 hs HK2
    go_wp2_with fail
    go_ret
    exact ⟨s, HS.out, rfl, HK3.out, h3⟩
  · have n0 : (x == 0) = false := by simpa using x0
    go_wp2_with fail
    refine (next_tp 12 _ _ _ _ _ _ (by omega) (by omega) h1).mono ?_
    rintro e w2 ⟨y, ya, yb, rfl, hk, h2⟩
    have HK2 := Lib.hid (HK.out.trans hk.tock)
    clear hk h1 HK
    obtain ⟨n, rfl⟩ := Int.eq_ofNat_of_zero_le ya
    go_wp2_with fail
    refine (bytes_any n w0 w2 t a len cap (by omega) h2).mono ?_
    rintro e w3 ⟨s, hs, rfl, hk, h3⟩
    have HK3 := Lib.hid (HK2.out.trans hk)
    have HS : Hid (s.size ≤ 1000) := by unfold Hid; omega
    clear hk h2 hs HK2
    go_wp2_with fail
    go_ret
    exact ⟨s, HS.out, rfl, HK3.out, h3⟩
end Go.Proofs.Ytebdnnfaghhpkaa
