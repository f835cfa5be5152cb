/- The walk of ContentCalls, up to the sanity check. -/
import Derived.Test.YtebdnnfaghhpkaaPnr
namespace Go.Proofs.Ytebdnnfaghhpkaa
open Go.ChangeShapes Go.WideShapes Go.ChangeAt Go.RowKit

theorem tape_start (w : World) (a : Option Addr) (len cap : Nat) (ha : ArgRow w a len) (hl : len ≤ maxLen) : TP w w.heap.size a len cap (w.alloc (.cells #[.slice a len cap, .int .i64 0] 25)) :=
  ⟨0, ha, Nat.le_refl _, by simp, (Below.refl _ _).alloc (Nat.le_refl _) _, by simp, by simp, by simp, Nat.zero_le _, hl⟩
set_option maxRecDepth 100000 in
set_option maxHeartbeats 8000000 in
theorem calls_walk (hA : ∀ w : World, Calls Try.prog 22 #[] w (RetW (.bool true) w)) (a : Option Addr) (len cap : Nat) (w : World) (ha : ArgRow w a len) (hl : len ≤ maxLen) :
    Calls Try.prog 3 #[.slice a len cap] w (RetW (.bool true) w) := by
  have HAW := Lib.hid hA
  clear hA
  have HT := Lib.hid (tape_start w a len cap ha hl)
  go_enter Try.func3, Try.ntmps3
  go_wp2_with fail
  have tp0 := HT.out
  clear HT
  have HK : Hid (Tock w.heap.size w (w.alloc (.cells #[.slice a len cap, .int .i64 0] 25))) := Tock.ofBelow ((Below.refl w.heap.size w).alloc (Nat.le_refl _) _) (Nat.le_refl _)
  generalize w.alloc (.cells #[.slice a len cap, .int .i64 0] 25) = w0 at *
  refine (text_any _ _ _ _ _ _ tp0).mono ?_
  rintro e w1 ⟨s, hs, rfl, hk, tpn⟩
  replace HK := Lib.hid (HK.out.trans hk)
  clear hk tp0
  have tp1 := tpn
  clear tpn
  go_wp2_with fail
  refine (next_tp 5 _ _ _ _ _ _ (by omega) (by omega) tp1).mono ?_
  rintro e w2 ⟨r1, ra1, rb1, rfl, hk, tpn⟩
  replace hk := hk.tock
  replace HK := Lib.hid (HK.out.trans hk)
  clear hk tp1
  have tp2 := tpn
  clear tpn
  obtain ⟨n1, rfl⟩ := Int.eq_ofNat_of_zero_le ra1
  go_wp2_with fail
  refine (bytes_any n1 _ _ _ _ _ _ (by omega) tp2).mono ?_
  rintro e w3 ⟨b, hb, rfl, hk, tpn⟩
  replace HK := Lib.hid (HK.out.trans hk)
  clear hk tp2
  have tp3 := tpn
  clear tpn
  go_wp2_with fail
  refine (next_tp 16 _ _ _ _ _ _ (by omega) (by omega) tp3).mono ?_
  rintro e w4 ⟨r2, ra2, rb2, rfl, hk, tpn⟩
  replace hk := hk.tock
  replace HK := Lib.hid (HK.out.trans hk)
  clear hk tp3
  have tp4 := tpn
  clear tpn
  go_wp2_with fail
  refine (next_tp 16 _ _ _ _ _ _ (by omega) (by omega) tp4).mono ?_
  rintro e w5 ⟨r3, ra3, rb3, rfl, hk, tpn⟩
  replace hk := hk.tock
  replace HK := Lib.hid (HK.out.trans hk)
  clear hk tp4
  have tp5 := tpn
  clear tpn
  go_wp2_with fail
  refine (next_tp 6 _ _ _ _ _ _ (by omega) (by omega) tp5).mono ?_
  rintro e w6 ⟨r4, ra4, rb4, rfl, hk, tpn⟩
  replace hk := hk.tock
  replace HK := Lib.hid (HK.out.trans hk)
  clear hk tp5
  have tp6 := tpn
  clear tpn
  go_upto_if 41 with (fail)
  go_cut [6, 7] (fun s6 s7 wx => ∃ off n : Int, s6 = .int .i64 off ∧ -9223372036854775808 ≤ off ∧ off ≤ 9223372036854775807 ∧ s7 = .int .i64 n ∧ -9223372036854775808 ≤ n ∧ n ≤ 9223372036854775807 ∧ TP w w.heap.size a len cap wx ∧ Tock w.heap.size w wx)
  case first =>
    by_cases x0 : r4 = 0
    · subst x0
      go_wp2_with fail
      refine (odd_any _ _ _ _ _ _ tp6).mono ?_
      rintro e w7 ⟨r5, ra5, rb5, rfl, hk, tpn⟩
      replace HK := Lib.hid (HK.out.trans hk)
      clear hk tp6
      have tp7 := tpn
      clear tpn
      go_wp2_with fail
      refine (odd_any _ _ _ _ _ _ tp7).mono ?_
      rintro e w8 ⟨r6, ra6, rb6, rfl, hk, tpn⟩
      replace HK := Lib.hid (HK.out.trans hk)
      clear hk tp7
      have tp8 := tpn
      clear tpn
      go_wp2_with fail
      go_meet
      exact ⟨_, _, rfl, ra5, rb5, rfl, ra6, rb6, tp8, HK.out⟩
    · have n0 : (r4 == 0) = false := by simpa using x0
      go_wp2_with fail
      go_meet
      exact ⟨_, _, rfl, by omega, by omega, rfl, by omega, by omega, tp6, HK.out⟩
  case rest =>
    clear HK tp6
    obtain ⟨off, n, rfl, offl, offh, rfl, nl, nh, tpx, hk⟩ := hcut
    have hsm : s.size ≤ maxLen := by unfold maxLen; omega
    have hbm : b.size ≤ maxLen := by unfold maxLen; omega
    have HB := Lib.hid tpx.bel
    clear hk tpx
    have pA := fun w => read_any s off n w hsm
    have qA := fun w => readR_any s off n w hsm
    generalize readV s off n = xA at pA qA
    obtain ⟨yA, zA⟩ := xA
    simp only at pA qA
    have PA := Lib.hid pA
    have QA := Lib.hid qA
    clear pA qA
    have pB := fun w => write_any s off b w hsm hbm
    have qB := fun w => writeR_any s off b w hsm hbm
    generalize writeV s off b = xB at pB qB
    obtain ⟨yB, zB⟩ := xB
    simp only at pB qB
    have PB := Lib.hid pB
    have QB := Lib.hid qB
    clear pB qB
    have pC := fun w => trunc_any s n w hsm
    have qC := fun w => truncR_any s n w hsm
    generalize truncV s n = xC at pC qC
    obtain ⟨yC, zC⟩ := xC
    simp only at pC qC
    have PC := Lib.hid pC
    have QC := Lib.hid qC
    clear pC qC
    have pD := fun w => punch_any s off n w hsm
    have qD := fun w => punchR_any s off n w hsm nh
    generalize punchV s off n = xD at pD qD
    obtain ⟨yD, zD⟩ := xD
    simp only at pD qD
    have PD := Lib.hid pD
    have QD := Lib.hid qD
    clear pD qD
    have pE := fun w => byte_any s off w hsm
    have qE := fun w => byteR_any s off w hsm
    generalize (if off < 0 then (0 : Int) else ((s.data.toList.getD off.toNat 0).toNat : Int)) = xE at pE qE
    have PE := Lib.hid pE
    have QE := Lib.hid qE
    clear pE qE hsm hbm offl offh nl nh hs hb ra1 rb1 ra2 rb2 ra3 rb3 ra4 rb4
    go_wp2_with fail
    refine (PA.out _).mono ?_; rintro e w' ⟨rfl, rfl⟩
    go_wp2_with fail
    refine (QA.out _).mono ?_; rintro e w' ⟨rfl, rfl⟩
    go_wp2_with fail
    refine (PB.out _).mono ?_; rintro e w7 ⟨rfl, hb⟩
    replace HB := Lib.hid (HB.out.trans (hb.mono HB.out.size))
    clear hb
    go_wp2_with fail
    refine (QB.out _).mono ?_; rintro e w8 ⟨rfl, hb⟩
    replace HB := Lib.hid (HB.out.trans (hb.mono HB.out.size))
    clear hb
    go_wp2_with fail
    refine (PC.out _).mono ?_; rintro e w9 ⟨rfl, hb⟩
    replace HB := Lib.hid (HB.out.trans (hb.mono HB.out.size))
    clear hb
    go_wp2_with fail
    refine (QC.out _).mono ?_; rintro e w10 ⟨rfl, hb⟩
    replace HB := Lib.hid (HB.out.trans (hb.mono HB.out.size))
    clear hb
    go_wp2_with fail
    refine (PD.out _).mono ?_; rintro e w11 ⟨rfl, hb⟩
    replace HB := Lib.hid (HB.out.trans (hb.mono HB.out.size))
    clear hb
    go_wp2_with fail
    refine (QD.out _).mono ?_; rintro e w12 ⟨rfl, hb⟩
    replace HB := Lib.hid (HB.out.trans (hb.mono HB.out.size))
    clear hb
    go_wp2_with fail
    refine (PE.out _).mono ?_; rintro e w' ⟨rfl, rfl⟩
    go_wp2_with fail
    refine (QE.out _).mono ?_; rintro e w' ⟨rfl, rfl⟩
    go_wp2_with fail
    refine (HAW.out _).mono ?_; rintro e w13 ⟨rfl, hb⟩
    replace HB := Lib.hid (HB.out.trans (hb.mono HB.out.size))
    clear hb
    go_wp2_with fail
    go_ret
    exact RetW.mk rfl HB.out
end Go.Proofs.Ytebdnnfaghhpkaa
