/- The walk of ImageExact. -/
import Derived.Test.YtincobjgfclfjaaWSmall
namespace Go.Proofs.Ytincobjgfclfjaa
open Go.ChangeShapes Go.WideShapes Go.ChangeAt Go.RowKit

set_option maxRecDepth 100000 in
set_option maxHeartbeats 4000000 in
theorem exact_main (a b d : ByteArray) (s c : Int) (w : World) (ha : a.size ≤ 1200) (hb : b.size ≤ 1200) (hd : d.size ≤ 1200) :
    Calls Try.prog 3 #[.string a, .string b, .string d, .int .i64 s, .int .i64 c] w (RetW (.bool true) w) := by
  have HA : Hid (a.size ≤ maxLen) := by show _ ≤ maxLen; unfold maxLen; omega
  have HB : Hid (b.size ≤ maxLen) := by show _ ≤ maxLen; unfold maxLen; omega
  have HD : Hid (d.size ≤ maxLen) := by show _ ≤ maxLen; unfold maxLen; omega
  have a1 : (a.size : Int) ≤ 1200 := by omega
  have a2 : (b.size : Int) ≤ 1200 := by omega
  have a3 : (d.size : Int) ≤ 1200 := by omega
  clear ha hb hd
  go_enter Try.func3, Try.ntmps3
  go_wp2_with fail
  refine (read_any _ _ _ _ HA.out).mono ?_; rintro e w' ⟨rfl, rfl⟩
  go_wp2_with fail
  refine (rread_any _ _ _ _ HA.out).mono ?_; rintro e w' ⟨rfl, rfl⟩
  go_wp2_with fail
  refine (write_any _ _ _ _ HA.out HD.out).mono ?_; rintro e w1 ⟨rfl, hb1⟩
  go_wp2_with fail
  refine (rwrite_any _ _ _ _ HA.out HD.out).mono ?_; rintro e w2 ⟨rfl, hb2⟩
  go_wp2_with fail
  refine (half_any _ _ _ _ HA.out HD.out).mono ?_; rintro e w3 ⟨rfl, hb3⟩
  go_wp2_with fail
  refine (rhalf_any _ _ _ _ HA.out HD.out).mono ?_; rintro e w4 ⟨rfl, hb4⟩
  go_wp2_with fail
  refine (valid_any _ _ HA.out).mono ?_; rintro e w' ⟨rfl, rfl⟩
  go_wp2_with fail
  refine (image_any _ _ HA.out).mono ?_; rintro e w' ⟨rfl, rfl⟩
  go_wp2_with fail
  refine (zero_any _ _).mono ?_; rintro e w5 ⟨rfl, hb5⟩
  go_wp2_with fail
  refine (rzero_any _ _).mono ?_; rintro e w6 ⟨rfl, hb6⟩
  go_wp2_with fail
  refine (diff_any a b _ HA.out HB.out).mono ?_; rintro e w7 ⟨v7, rfl, hb7, hown7⟩
  go_wp2_with fail
  refine (rdiff_any a b _ HA.out HB.out).mono ?_; rintro e w8 ⟨v8, rfl, hb8, hown8⟩
  go_wp2_with fail
  refine (same_any v7 v8 (difS a b) _ _ w8 (difS_le a b im_small) (own_below hown7 hb8 (Nat.le_refl _)) hown8).mono ?_; rintro e w9 ⟨rfl, hb9⟩
  clear hown7 hown8
  go_wp2_with fail
  refine (awake_any _).mono ?_; rintro e w10 ⟨rfl, hb10⟩
  go_wp2_with fail
  go_ret
  refine RetW.mk (by first | rfl | simp) ?_
  have h := hb1.trans (hb2.mono hb1.size)
  replace h := h.trans (hb3.mono h.size)
  replace h := h.trans (hb4.mono h.size)
  replace h := h.trans (hb5.mono h.size)
  replace h := h.trans (hb6.mono h.size)
  replace h := h.trans (hb7.mono h.size)
  replace h := h.trans (hb8.mono h.size)
  replace h := h.trans (hb9.mono h.size)
  exact h.trans (hb10.mono h.size)

set_option maxRecDepth 100000 in
set_option maxHeartbeats 4000000 in
theorem exact_walk (a b d : ByteArray) (s c : Int) (w : World) (ha : a.size ≤ maxLen) (hb : b.size ≤ maxLen) (hd : d.size ≤ maxLen) :
    Calls Try.prog 3 #[.string a, .string b, .string d, .int .i64 s, .int .i64 c] w (RetW (.bool true) w) := by
  unfold maxLen at ha hb hd
  by_cases h1 : a.size ≤ 1200
  · by_cases h2 : b.size ≤ 1200
    · by_cases h3 : d.size ≤ 1200
      · exact exact_main a b d s c w h1 h2 h3
      · have c1 : (a.size : Int) ≤ 1200 := by omega
        have c2 : (b.size : Int) ≤ 1200 := by omega
        have c3 : (1200 : Int) < (d.size : Int) := by omega
        clear h1 h2 h3
        go_enter Try.func3, Try.ntmps3
        go_wp2_with fail
        go_ret
        exact RetW.mk rfl (Below.refl _ _)
    · have c1 : (a.size : Int) ≤ 1200 := by omega
      have c2 : (1200 : Int) < (b.size : Int) := by omega
      clear h1 h2
      go_enter Try.func3, Try.ntmps3
      go_wp2_with fail
      go_ret
      exact RetW.mk rfl (Below.refl _ _)
  · have c1 : (1200 : Int) < (a.size : Int) := by omega
    clear h1
    go_enter Try.func3, Try.ntmps3
    go_wp2_with fail
    go_ret
    exact RetW.mk rfl (Below.refl _ _)
end Go.Proofs.Ytincobjgfclfjaa
