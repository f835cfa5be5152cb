/- The walk of ContentApart, up to the sanity check. -/
import Derived.Test.YtebdnnfaghhpkaaAp
import Derived.Test.YtebdnnfaghhpkaaWca
namespace Go.Proofs.Ytebdnnfaghhpkaa
open Go.ChangeShapes Go.WideShapes Go.ChangeAt Go.RowKit

set_option maxRecDepth 100000 in
set_option maxHeartbeats 8000000 in
theorem apart_walk (hA : ∀ w : World, Calls Try.prog 22 #[] w (RetW (.bool true) w)) (a : Option Addr) (len cap : Nat) (w : World) (ha : ArgRow w a len) (hl : len ≤ maxLen) :
    Calls Try.prog 7 #[.slice a len cap] w (RetW (.bool true) w) := by
  have HAW := Lib.hid hA
  clear hA
  have HT := Lib.hid (tape_start w a len cap ha hl)
  go_enter Try.func7, Try.ntmps7
  go_wp2_with fail
  have tp0 := HT.out
  clear HT
  have HK : Hid (Tock w.heap.size w (w.alloc (.cells #[.slice a len cap, .int .i64 0] 25))) := Tock.ofBelow ((Below.refl w.heap.size w).alloc (Nat.le_refl _) _) (Nat.le_refl _)
  generalize w.alloc (.cells #[.slice a len cap, .int .i64 0] 25) = w0 at *
  refine (next_tp 30 _ _ _ _ _ _ (by omega) (by omega) tp0).mono ?_
  rintro e w1 ⟨k1, k1a, k1b, rfl, hk, tpn⟩
  replace hk := hk.tock
  replace HK := Lib.hid (HK.out.trans hk)
  clear hk tp0
  have tp1 := tpn
  clear tpn
  obtain ⟨k1, rfl⟩ := Int.eq_ofNat_of_zero_le k1a
  go_wp2_with fail
  refine (bytes_any k1 _ _ _ _ _ _ (by omega) tp1).mono ?_
  rintro e w2 ⟨s, hs, rfl, hk, tpn⟩
  replace HK := Lib.hid (HK.out.trans hk)
  clear hk tp1
  have tp2 := tpn
  clear tpn
  have sl : s.size ≤ 29 := by omega
  clear hs
  go_wp2_with fail
  refine (next_tp 9 _ _ _ _ _ _ (by omega) (by omega) tp2).mono ?_
  rintro e w3 ⟨k2, k2a, k2b, rfl, hk, tpn⟩
  replace hk := hk.tock
  replace HK := Lib.hid (HK.out.trans hk)
  clear hk tp2
  have tp3 := tpn
  clear tpn
  obtain ⟨k2, rfl⟩ := Int.eq_ofNat_of_zero_le k2a
  go_wp2_with fail
  have hby := bytes_any (1 + k2) _ _ _ _ _ _ (by omega) tp3
  rw [show ((1 + k2 : Nat) : Int) = 1 + (k2 : Int) from by omega] at hby
  refine hby.mono ?_
  rintro e w4 ⟨x, hx, rfl, hk, tpn⟩
  clear hby
  replace HK := Lib.hid (HK.out.trans hk)
  clear hk tp3
  have tp4 := tpn
  clear tpn
  have xl : x.size ≤ 9 := by omega
  have xp : 1 ≤ x.size := by omega
  clear hx
  go_wp2_with fail
  refine (next_tp 9 _ _ _ _ _ _ (by omega) (by omega) tp4).mono ?_
  rintro e w5 ⟨k3, k3a, k3b, rfl, hk, tpn⟩
  replace hk := hk.tock
  replace HK := Lib.hid (HK.out.trans hk)
  clear hk tp4
  have tp5 := tpn
  clear tpn
  obtain ⟨k3, rfl⟩ := Int.eq_ofNat_of_zero_le k3a
  go_wp2_with fail
  have hby := bytes_any (1 + k3) _ _ _ _ _ _ (by omega) tp5
  rw [show ((1 + k3 : Nat) : Int) = 1 + (k3 : Int) from by omega] at hby
  refine hby.mono ?_
  rintro e w6 ⟨y, hy, rfl, hk, tpn⟩
  clear hby
  replace HK := Lib.hid (HK.out.trans hk)
  clear hk tp5
  have tp6 := tpn
  clear tpn
  have yl : y.size ≤ 9 := by omega
  have yp : 1 ≤ y.size := by omega
  clear hy
  go_wp2_with fail
  refine (next_tp 20 _ _ _ _ _ _ (by omega) (by omega) tp6).mono ?_
  rintro e w7 ⟨o, oa, ob, rfl, hk, tpn⟩
  replace hk := hk.tock
  replace HK := Lib.hid (HK.out.trans hk)
  clear hk tp6
  have tp7 := tpn
  clear tpn
  obtain ⟨o, rfl⟩ := Int.eq_ofNat_of_zero_le oa
  go_wp2_with fail
  refine (next_tp 5 _ _ _ _ _ _ (by omega) (by omega) tp7).mono ?_
  rintro e w8 ⟨g, ga, gb, rfl, hk, tpn⟩
  replace hk := hk.tock
  replace HK := Lib.hid (HK.out.trans hk)
  clear hk tp7
  have tp8 := tpn
  clear tpn
  obtain ⟨g, rfl⟩ := Int.eq_ofNat_of_zero_le ga
  go_wp2_with fail
  have sz1 : s.size ≤ 128 := by omega
  have szc : ∀ c : ByteArray, c.size = x.size → c.size ≤ 128 := fun c h => by omega
  have e1 := write_ok (s := s) (b := x) (o := o) (by omega) (by omega) (by omega)
  have e2 := write_ok (s := putS s o x) (b := y) (o := o + x.size + g) (by rw [putS_size]; omega) (by omega) (by omega)
  have e3 := write_ok (s := s) (b := y) (o := o + x.size + g) (by omega) (by omega) (by omega)
  have e4 := write_ok (s := putS s (o + x.size + g) y) (b := x) (o := o) (by rw [putS_size]; omega) (by omega) (by omega)
  rw [← put_comm s x y o (o + x.size + g) (by omega)] at e4
  have hcast : ((o + x.size + g : Nat) : Int) = (o : Int) + (x.size : Int) + (g : Int) := by omega
  have hzS : (putS (putS s o x) (o + x.size + g) y).size ≤ 128 := by rw [putS_size, putS_size]; omega
  have hz1 : (putS s o x).size ≤ 128 := by rw [putS_size]; omega
  have hz2 : (putS s (o + x.size + g) y).size ≤ 128 := by rw [putS_size]; omega
  have c1 := fun w => write_any s (o : Int) x w (by unfold maxLen; omega) (by unfold maxLen; omega)
  have c2 := fun w => write_any (putS s o x) ((o + x.size + g : Nat) : Int) y w (by unfold maxLen; omega) (by unfold maxLen; omega)
  have c3 := fun w => write_any s ((o + x.size + g : Nat) : Int) y w (by unfold maxLen; omega) (by unfold maxLen; omega)
  have c4 := fun w => write_any (putS s (o + x.size + g) y) (o : Int) x w (by unfold maxLen; omega) (by unfold maxLen; omega)
  rw [e1] at c1
  rw [e2, hcast] at c2
  rw [e3, hcast] at c3
  rw [e4] at c4
  have HN : Hid (∀ c : ByteArray, c.size = x.size → (∀ w, Calls Try.prog 14 #[.string (putS (putS s o x) (o + x.size + g) y), .int .i64 o, .string c] w (RetW (.tuple #[.string (putS (putS (putS s o x) (o + x.size + g) y) o c), .int .i64 0]) w)) ∧ (∀ w, Calls Try.prog 12 #[.string (putS (putS (putS s o x) (o + x.size + g) y) o c), .int .i64 o, .int .i64 c.size] w fun e w' => e = .returned (.tuple #[.string c, .int .i64 0]) ∧ w = w')) := by
    intro c hc
    have d1 := fun w => write_any (putS (putS s o x) (o + x.size + g) y) (o : Int) c w (by unfold maxLen; omega) (by unfold maxLen; omega)
    rw [write_ok hzS (by omega) (by omega)] at d1
    have d2 := fun w => read_any (putS (putS (putS s o x) (o + x.size + g) y) o c) (o : Int) c.size w (by rw [putS_size]; unfold maxLen; omega)
    rw [read_ok hzS (by omega)] at d2
    exact ⟨d1, d2⟩
  have HS : Hid (s.size ≤ 128) := sz1
  generalize putS (putS s o x) (o + x.size + g) y = S at *
  generalize putS s o x = S1 at *
  generalize putS s (o + x.size + g) y = S2 at *
  simp only at c1 c2 c3 c4
  have C1 := Lib.hid c1; have C2 := Lib.hid c2; have C3 := Lib.hid c3; have C4 := Lib.hid c4
  have HX : Hid (x.size ≤ 9) := by unfold Hid; omega
  clear c1 c2 c3 c4 e1 e2 e3 e4 hcast hzS hz1 hz2 szc sz1
  clear k1a k1b k2a k2b k3a k3b
  have hxs : x.size ≤ 9 := HX.out
  refine (C1.out _).mono ?_; rintro e w9 ⟨rfl, hb⟩
  replace HK := Lib.hid (HK.out.trans (Tock.ofBelow hb (Nat.le_refl _)))
  have tp9 := tp8.below hb tp8.hi
  clear tp8 hb
  go_wp2_with fail
  refine (C2.out _).mono ?_; rintro e w10 ⟨rfl, hb⟩
  replace HK := Lib.hid (HK.out.trans (Tock.ofBelow hb (Nat.le_refl _)))
  have tp10 := tp9.below hb tp9.hi
  clear tp9 hb
  go_wp2_with fail
  refine (C3.out _).mono ?_; rintro e w11 ⟨rfl, hb⟩
  replace HK := Lib.hid (HK.out.trans (Tock.ofBelow hb (Nat.le_refl _)))
  have tp11 := tp10.below hb tp10.hi
  clear tp10 hb
  go_wp2_with fail
  refine (C4.out _).mono ?_; rintro e w12 ⟨rfl, hb⟩
  replace HK := Lib.hid (HK.out.trans (Tock.ofBelow hb (Nat.le_refl _)))
  have tp12 := tp11.below hb tp11.hi
  clear tp11 hb
  go_wp2_with fail
  refine (bytes_any x.size _ _ _ _ _ _ (by omega) tp12).mono ?_
  rintro e w13 ⟨c, hc, rfl, hk, tpn⟩
  replace HK := Lib.hid (HK.out.trans hk)
  clear hk tp12
  have tp13 := tpn
  clear tpn
  obtain ⟨d1, d2⟩ := HN.out c hc
  have D1 := Lib.hid d1; have D2 := Lib.hid d2
  generalize putS S o c = U at *
  clear d1 d2 hc HN
  go_wp2_with fail
  refine (D1.out _).mono ?_; rintro e w14 ⟨rfl, hb⟩
  replace HK := Lib.hid (HK.out.trans (Tock.ofBelow hb (Nat.le_refl _)))
  have tp14 := tp13.below hb tp13.hi
  clear tp13 hb
  go_wp2_with fail
  refine (D1.out _).mono ?_; rintro e w15 ⟨rfl, hb⟩
  replace HK := Lib.hid (HK.out.trans (Tock.ofBelow hb (Nat.le_refl _)))
  have tp15 := tp14.below hb tp14.hi
  clear tp14 hb
  go_wp2_with fail
  refine (D2.out _).mono ?_; rintro e w' ⟨rfl, rfl⟩
  go_wp2_with fail
  refine (next_tp 60 _ _ _ _ _ _ (by omega) (by omega) tp15).mono ?_
  rintro e w16 ⟨m, ma, mb, rfl, hk, tpn⟩
  replace hk := hk.tock
  replace HK := Lib.hid (HK.out.trans hk)
  clear hk tp15
  have tp16 := tpn
  clear tpn
  obtain ⟨m, rfl⟩ := Int.eq_ofNat_of_zero_le ma
  go_wp2_with fail
  refine (next_tp 60 _ _ _ _ _ _ (by omega) (by omega) tp16).mono ?_
  rintro e w17 ⟨n, na, nb, rfl, hk, tpn⟩
  replace hk := hk.tock
  replace HK := Lib.hid (HK.out.trans hk)
  clear hk tp16
  have tp17 := tpn
  clear tpn
  obtain ⟨n, rfl⟩ := Int.eq_ofNat_of_zero_le na
  have hmn : min (m : Int) (n : Int) = ((min m n : Nat) : Int) := by omega
  have zs := HS.out
  have f1 := fun w => trunc_any s (m : Int) w (by unfold maxLen; omega)
  have f2 := fun w => trunc_any (sizedS s m) (n : Int) w (by rw [sizedS_size]; unfold maxLen; omega)
  have f3 := fun w => trunc_any s ((min m n : Nat) : Int) w (by unfold maxLen; omega)
  have f4 := fun w => trunc_any (sizedS s (min m n)) (n : Int) w (by rw [sizedS_size]; unfold maxLen; omega)
  rw [trunc_ok zs (by omega)] at f1
  rw [trunc_ok (by rw [sizedS_size]; omega) (by omega)] at f2
  rw [trunc_ok zs (by omega)] at f3
  rw [trunc_ok (by rw [sizedS_size]; omega) (by omega), ← sized_twice] at f4
  have hzs : (sizedS (sizedS s m) n).size = n := sizedS_size _ _
  generalize sizedS (sizedS s m) n = R at *
  generalize sizedS s m = R1 at *
  generalize sizedS s (min m n) = R2 at *
  generalize min m n = q at *
  simp only at f1 f2 f3 f4
  have hzi : ((R.size : Int) == (n : Int)) = true := by rw [hzs]; simp
  have F1 := Lib.hid f1; have F2 := Lib.hid f2; have F3 := Lib.hid f3; have F4 := Lib.hid f4
  have HMN := Lib.hid hmn
  have hm0 : (0 : Int) ≤ (m : Int) := by omega
  clear f1 f2 f3 f4 zs hmn
  have hmn := HMN.out
  have HB := Lib.hid tp17.bel
  clear tp17
  clear HK
  go_wp2_with fail
  refine (F1.out _).mono ?_; rintro e w18 ⟨rfl, hb⟩
  replace HB := Lib.hid (HB.out.trans (hb.mono HB.out.size))
  clear hb
  go_wp2_with fail
  refine (F2.out _).mono ?_; rintro e w19 ⟨rfl, hb⟩
  replace HB := Lib.hid (HB.out.trans (hb.mono HB.out.size))
  clear hb
  go_wp2_with fail
  refine (F3.out _).mono ?_; rintro e w20 ⟨rfl, hb⟩
  replace HB := Lib.hid (HB.out.trans (hb.mono HB.out.size))
  clear hb
  go_wp2_with fail
  refine (F4.out _).mono ?_; rintro e w21 ⟨rfl, hb⟩
  replace HB := Lib.hid (HB.out.trans (hb.mono HB.out.size))
  clear hb
  go_wp2_with fail
  refine (HAW.out _).mono ?_; rintro e w22 ⟨rfl, hb⟩
  replace HB := Lib.hid (HB.out.trans (hb.mono HB.out.size))
  clear hb
  go_wp2_with fail
  go_ret
  exact RetW.mk rfl HB.out
end Go.Proofs.Ytebdnnfaghhpkaa
