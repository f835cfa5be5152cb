/- The walk of ImageHalves. -/
import Derived.Test.YtincobjgfclfjaaPlain
import Derived.Test.YtincobjgfclfjaaAwake
namespace Go.Proofs.Ytincobjgfclfjaa
open Go.ChangeShapes Go.WideShapes Go.ChangeAt Go.RowKit

set_option maxRecDepth 100000 in
set_option maxHeartbeats 4000000 in
theorem halves_walk (a0 a1 a2 a3 : Int) (w : World) :
    Calls Try.prog 6 #[.int .i64 a0, .int .i64 a1, .int .i64 a2, .int .i64 a3] w (RetW (.bool true) w) := by
  go_enter Try.func6, Try.ntmps6
  go_wp2_with fail
  refine (round_some _ _ _ (by omega) (by omega)).mono ?_; rintro e w' ⟨r, hr0, hr1, rfl, rfl⟩
  obtain ⟨κ, rfl⟩ := Int.eq_ofNat_of_zero_le hr0
  have c1 : (1 : Int) + (κ : Int) = ((κ + 1 : Nat) : Int) := by omega
  have C1 := Lib.hid c1
  clear c1
  go_wp2_with fail
  rw [C1.out]
  refine (dimage_any a0 (κ + 1) _ (by omega)).mono ?_; rintro e w1 ⟨rfl, hb1⟩
  go_wp2_with fail
  refine (round_some _ _ _ (by omega) (by omega)).mono ?_; rintro e w' ⟨s, hs0, hs1, rfl, rfl⟩
  obtain ⟨σ, rfl⟩ := Int.eq_ofNat_of_zero_le hs0
  go_wp2_with fail
  refine (data_any a3 1 _ (by omega)).mono ?_; rintro e w2 ⟨rfl, hb2⟩
  have hsa := dataS_size a0 (κ + 1)
  have hsd := dataS_size a3 1
  generalize dataS a0 (κ + 1) = A at hsa ⊢
  generalize dataS a3 1 = d at hsd ⊢
  have hok : okB A.size (σ : Int) 1 = true := ok_mk (by omega)
  obtain ⟨b, c, q1, q2, q3, q4, q5, q6, q7⟩ := halves A d σ hok (by omega)
  have hA : A.size ≤ maxLen := by unfold maxLen; omega
  have hb : b.size ≤ maxLen := by unfold maxLen; omega
  have hd : d.size ≤ maxLen := by unfold maxLen; omega
  have HA := Lib.hid hA; have HB := Lib.hid hb; have HD := Lib.hid hd
  have Q1 := Lib.hid q1; have Q2 := Lib.hid q2; have Q3 := Lib.hid q3
  have b1 : (σ : Int) * 8 + 8 ≤ (A.size : Int) := by omega
  have b2 : (A.size : Int) ≤ 64 := by omega
  have b3 : (σ : Int) * 8 + 8 ≤ (b.size : Int) := by omega
  have b4 : (b.size : Int) ≤ 64 := by omega
  have b5 : (d.size : Int) ≤ 8 := by omega
  have b6 : (8 : Int) ≤ (d.size : Int) := by omega
  have f1 : ((b.size : Int) == (A.size : Int)) = true := by simp; omega
  have e1 : ((σ : Int) * 8).toNat = σ * 8 := by omega
  have e2 : ((σ : Int) * 8 + 4).toNat = σ * 8 + 4 := by omega
  have f2 : ((b.extract 0 ((σ : Int) * 8).toNat).toList == (A.extract 0 ((σ : Int) * 8).toNat).toList) = true := by rw [e1, q5]; simp
  have f3 : ((b.extract ((σ : Int) * 8).toNat ((σ : Int) * 8 + 4).toNat).toList == (d.extract 0 4).toList) = true := by rw [e1, e2, q6]; simp
  have f4 : ((b.extract ((σ : Int) * 8 + 4).toNat b.size).toList == (A.extract ((σ : Int) * 8 + 4).toNat A.size).toList) = true := by rw [e2, q7]; simp
  have g0 : 0 ≤ (σ : Int) * 8 := by omega
  have g1 : (σ : Int) * 8 ≤ (b.size : Int) := by omega
  have g2 : (σ : Int) * 8 ≤ (A.size : Int) := by omega
  have g3 : 0 ≤ (σ : Int) * 8 + 4 := by omega
  have g4 : (σ : Int) * 8 + 4 ≤ (b.size : Int) := by omega
  have g5 : (σ : Int) * 8 + 4 ≤ (A.size : Int) := by omega
  have g6 : (σ : Int) * 8 ≤ (σ : Int) * 8 + 4 := by omega
  have g7 : (4 : Int) ≤ (d.size : Int) := by omega
  clear e1 e2
  clear hsa hsd hok q1 q2 q3 q4 q5 q6 q7 hA hb hd C1
  go_wp2_with fail
  refine (half_any _ _ _ _ HA.out HD.out).mono ?_; rintro e w3 ⟨rfl, hb3⟩
  rw [Q1.out]
  go_wp2_with fail
  refine (write_any _ _ _ _ HB.out HD.out).mono ?_; rintro e w4 ⟨rfl, hb4⟩
  rw [Q2.out]
  go_wp2_with fail
  refine (write_any _ _ _ _ HA.out HD.out).mono ?_; rintro e w5 ⟨rfl, hb5⟩
  rw [Q3.out]
  go_wp2_with fail
  have hB : Below w.heap.size w w5 := by
    have := hb1.trans (hb2.mono hb1.size)
    have := this.trans (hb3.mono this.size)
    have := this.trans (hb4.mono this.size)
    exact this.trans (hb5.mono this.size)
  clear hb1 hb2 hb3 hb4 hb5
  go_still_tail 47, (by kernel_rfl)
  change wpList _ _ _ _ _ w5.drew
  go_wp2_with (go_at_call 21; refine (awake_any _).mono ?_; rintro e w6 ⟨rfl, hb6⟩)
  go_ret
  exact RetW.mk rfl (hB.drew.trans (hb6.mono hB.size))
end Go.Proofs.Ytincobjgfclfjaa
