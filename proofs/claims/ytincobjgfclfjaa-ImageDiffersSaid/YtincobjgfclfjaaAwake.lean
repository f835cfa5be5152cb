/- awake of layer 19 returns true. -/
import Derived.Test.YtincobjgfclfjaaHalf
import Derived.Test.YtincobjgfclfjaaDiff
namespace Go.Proofs.Ytincobjgfclfjaa
open Go.ChangeShapes Go.WideShapes Go.ChangeAt Go.RowKit

def abcd : ByteArray := ⟨#[97, 98, 99, 100, 101, 102, 103, 104]⟩
def abcz : ByteArray := ⟨#[97, 98, 99, 100, 0, 0, 0, 0]⟩
theorem aw1 : zeroS 1 = zeros 8 := by kernel_rfl
theorem aw2 : halfS (zeros 8) 0 abcd = (abcz, true) := by kernel_rfl
theorem aw3 : difS abcz (zeros 8) = [0] := by kernel_rfl
theorem aw4 : imB abcz.size = true := by kernel_rfl
theorem aw5 : (abcz.toList == [97, 98, 99, 100, 0, 0, 0, 0]) = true := by kernel_rfl
theorem own_slice {w : World} {base : Nat} {e : TypeId} {size : Nat} {v : Value} {n : Nat} {xs : List Value} (h : w.ownsRow base e size v n xs) : ∃ a c, v = .slice a n c := by
  rcases h.2 with ⟨h1, h2⟩ | ⟨g, cap, cur, h1, _⟩
  · exact ⟨none, 0, by rw [h1, h2]⟩
  · exact ⟨_, _, h1⟩
set_option maxHeartbeats 1000000 in
theorem awake_any (w : World) : Calls Try.prog 21 #[] w (RetW (.bool true) w) := by
  have h8 : (zeros 8).size ≤ maxLen := by rw [size_zeros]; unfold maxLen; omega
  have hx : abcz.size ≤ maxLen := by show 8 ≤ maxLen; unfold maxLen; omega
  have hd : abcd.size ≤ maxLen := by show 8 ≤ maxLen; unfold maxLen; omega
  have H8 := Lib.hid h8; have HX := Lib.hid hx; have HD := Lib.hid hd
  clear h8 hx hd
  have hq := aw5
  have hv := aw4
  go_enter Try.func21, Try.ntmps21
  go_wp2_with fail
  refine (zero_any 1 _).mono ?_
  rintro e w1 ⟨rfl, hb1⟩
  rw [aw1]
  go_wp2_with fail
  refine (half_any (zeros 8) 0 abcd _ H8.out HD.out).mono ?_
  rintro e w2 ⟨rfl, hb2⟩
  rw [aw2]
  go_wp2_with fail
  refine (valid_any _ _ HX.out).mono ?_
  rintro e w3 ⟨rfl, rfl⟩
  go_wp2_with fail
  refine (zero_any 1 _).mono ?_
  rintro e w3 ⟨rfl, hb3⟩
  rw [aw1]
  go_wp2_with fail
  refine (diff_any abcz (zeros 8) _ HX.out H8.out).mono ?_
  rintro e w4 ⟨v, rfl, hb4, hown⟩
  rw [aw3] at hown
  obtain ⟨g, c, hv2⟩ := own_slice hown
  rw [hv2]
  clear hown hv2
  go_wp2_with fail
  go_ret
  exact RetW.mk rfl (((hb1.trans (hb2.mono hb1.size)).trans (hb3.mono (Nat.le_trans hb1.size hb2.size))).trans (hb4.mono (Nat.le_trans (Nat.le_trans hb1.size hb2.size) hb3.size)))
end Go.Proofs.Ytincobjgfclfjaa
