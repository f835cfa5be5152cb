/- The walk of PageWrites. -/
import Derived.Test.YthimcidkmnobnaaCom
namespace Go.Proofs.Ythimcidkmnobnaa
open Go.ChangeShapes Go.WideShapes Go.ChangeAt Go.RowKit

theorem sizes5 (r : Int) (h0 : 0 ≤ r) (h1 : r < 5) : ∃ n : Nat, n ≤ 16 ∧ (#[.int .i64 16, .int .i64 16, .int .i64 16, .int .i64 15, .int .i64 0] : Array Value)[r.toNat]? = some (.int .i64 (n : Int)) := by
  have h : r = 0 ∨ r = 1 ∨ r = 2 ∨ r = 3 ∨ r = 4 := by omega
  rcases h with rfl | rfl | rfl | rfl | rfl
  · exact ⟨16, by omega, rfl⟩
  · exact ⟨16, by omega, rfl⟩
  · exact ⟨16, by omega, rfl⟩
  · exact ⟨15, by omega, rfl⟩
  · exact ⟨0, by omega, rfl⟩

set_option maxRecDepth 100000 in
set_option maxHeartbeats 8000000 in
theorem writes_walk (a : Option Addr) (len cap : Nat) (w : World) (ha : ArgRow w a len) (hl : len ≤ maxLen) :
    Calls Try.prog 4 #[.slice a len cap] w (RetW (.bool true) w) := by
  have HT := Lib.hid (tape_start w a len cap ha hl)
  go_enter Try.func4, Try.ntmps4
  go_wp2_with fail
  have tp0 := HT.out
  clear HT
  have HK : Hid (Tock w.heap.size w (w.alloc (.cells #[.slice a len cap, .int .i64 0] 25))) := Tock.ofBelow ((Below.refl w.heap.size w).alloc (Nat.le_refl _) _) (Nat.le_refl _)
  generalize w.alloc (.cells #[.slice a len cap, .int .i64 0] 25) = w0 at *
  refine (mkpage_any _ _ _ _ _ _ tp0).mono ?_
  rintro e w1 ⟨p, hp, rfl, hk, tpn⟩
  replace HK := Lib.hid (HK.out.trans hk)
  clear hk tp0
  have tp1 := tpn
  clear tpn
  obtain ⟨d, v, e⟩ := p
  simp only [Pg.val] at hp ⊢
  go_wp2_with fail
  have hP := Has.new w1 d v e
  have hPt : w1.heap.size ≠ w.heap.size := by have := tp1.hi; omega
  replace HK := Lib.hid (HK.out.trans (Tock.ofBelow ((Below.refl w1.heap.size w1).alloc (Nat.le_refl _) (.cells #[.string d, .int .i64 v, .int .i64 e] 27)) (Nat.le_refl _)))
  have tp2 := tp1.below ((Below.refl w1.heap.size w1).alloc (Nat.le_refl _) (.cells #[.string d, .int .i64 v, .int .i64 e] 27)) tp1.hi
  clear tp1
  generalize w1.alloc (.cells #[.string d, .int .i64 v, .int .i64 e] 27) = w2 at *
  generalize w1.heap.size = BhP at *
  replace hP0 : w2.cell? ⟨BhP, 0, none⟩ = some (.string d) := hP.c0
  replace hP1 : w2.cell? ⟨BhP, 1, none⟩ = some (.int .i64 v) := hP.c1
  replace hP2 : w2.cell? ⟨BhP, 2, none⟩ = some (.int .i64 e) := hP.c2
  refine (next_tp 6 _ _ _ _ _ _ (by omega) (by omega) tp2).mono ?_
  rintro e w3 ⟨r1, ra1, rb1, rfl, hk, tpn⟩
  replace hk := hk.tock
  replace hP := hP.tock hPt hk
  replace HK := Lib.hid (HK.out.trans hk)
  replace hP0 : w3.cell? ⟨BhP, 0, none⟩ = some (.string d) := hP.c0
  replace hP1 : w3.cell? ⟨BhP, 1, none⟩ = some (.int .i64 v) := hP.c1
  replace hP2 : w3.cell? ⟨BhP, 2, none⟩ = some (.int .i64 e) := hP.c2
  clear hk tp2
  have tp3 := tpn
  clear tpn
  go_wp2_with fail
  refine (next_tp 20 _ _ _ _ _ _ (by omega) (by omega) tp3).mono ?_
  rintro e w4 ⟨r2, ra2, rb2, rfl, hk, tpn⟩
  replace hk := hk.tock
  replace hP := hP.tock hPt hk
  replace HK := Lib.hid (HK.out.trans hk)
  replace hP0 : w4.cell? ⟨BhP, 0, none⟩ = some (.string d) := hP.c0
  replace hP1 : w4.cell? ⟨BhP, 1, none⟩ = some (.int .i64 v) := hP.c1
  replace hP2 : w4.cell? ⟨BhP, 2, none⟩ = some (.int .i64 e) := hP.c2
  clear hk tp3
  have tp4 := tpn
  clear tpn
  go_wp2_with fail
  refine (next_tp 9 _ _ _ _ _ _ (by omega) (by omega) tp4).mono ?_
  rintro e w5 ⟨r3, ra3, rb3, rfl, hk, tpn⟩
  replace hk := hk.tock
  replace hP := hP.tock hPt hk
  replace HK := Lib.hid (HK.out.trans hk)
  replace hP0 : w5.cell? ⟨BhP, 0, none⟩ = some (.string d) := hP.c0
  replace hP1 : w5.cell? ⟨BhP, 1, none⟩ = some (.int .i64 v) := hP.c1
  replace hP2 : w5.cell? ⟨BhP, 2, none⟩ = some (.int .i64 e) := hP.c2
  clear hk tp4
  have tp5 := tpn
  clear tpn
  go_upto_if 38 with (fail)
  go_cut [6] (fun soff wx => ∃ off : Int, soff = .int .i64 off ∧ -9223372036854775808 ≤ off ∧ off ≤ 9223372036854775807 ∧ Has wx BhP ⟨d, v, e⟩ ∧ TP w w.heap.size a len cap wx ∧ Tock w.heap.size w wx)
  case first =>
    by_cases x0 : r3 = 0
    · subst x0
      go_wp2_with fail
      refine (odd_any _ _ _ _ _ _ tp5).mono ?_
      rintro e w7 ⟨r4, ra4, rb4, rfl, hk, tpn⟩
      replace hP := hP.tock hPt hk
      replace HK := Lib.hid (HK.out.trans hk)
      replace hP0 : w7.cell? ⟨BhP, 0, none⟩ = some (.string d) := hP.c0
      replace hP1 : w7.cell? ⟨BhP, 1, none⟩ = some (.int .i64 v) := hP.c1
      replace hP2 : w7.cell? ⟨BhP, 2, none⟩ = some (.int .i64 e) := hP.c2
      clear hk tp5
      have tp7 := tpn
      clear tpn
      go_wp2_with fail
      go_meet
      exact ⟨_, rfl, ra4, rb4, hP, tp7, HK.out⟩
    · have n0 : (r3 == 0) = false := by simpa using x0
      go_wp2_with fail
      go_meet
      exact ⟨_, rfl, by omega, by omega, hP, tp5, HK.out⟩
  case rest =>
    clear hP hP0 hP1 hP2 HK tp5
    obtain ⟨off, rfl, offl, offh, hP, tp6, hk⟩ := hcut
    have HK := Lib.hid hk
    clear hk
    replace hP0 : wc.cell? ⟨BhP, 0, none⟩ = some (.string d) := hP.c0
    replace hP1 : wc.cell? ⟨BhP, 1, none⟩ = some (.int .i64 v) := hP.c1
    replace hP2 : wc.cell? ⟨BhP, 2, none⟩ = some (.int .i64 e) := hP.c2
    go_wp2_with fail
    have HS5 := Lib.hid sizes5
    replace hP := hP.alloc (.cells (#[.int .i64 16, .int .i64 16, .int .i64 16, .int .i64 15, .int .i64 0] : Array Value) 3)
    replace HK := Lib.hid (HK.out.trans (Tock.ofBelow ((Below.refl wc.heap.size wc).alloc (Nat.le_refl _) (.cells (#[.int .i64 16, .int .i64 16, .int .i64 16, .int .i64 15, .int .i64 0] : Array Value) 3)) (Nat.le_refl _)))
    have tp7 := tp6.below ((Below.refl wc.heap.size wc).alloc (Nat.le_refl _) (.cells (#[.int .i64 16, .int .i64 16, .int .i64 16, .int .i64 15, .int .i64 0] : Array Value) 3)) tp6.hi
    have hct : wc.heap.size ≠ w.heap.size := by have := tp6.hi; omega
    have hcl : wc.heap.size < (wc.alloc (.cells (#[.int .i64 16, .int .i64 16, .int .i64 16, .int .i64 15, .int .i64 0] : Array Value) 3)).heap.size := by simp
    have hcc := World.cell?_alloc_mark wc (#[.int .i64 16, .int .i64 16, .int .i64 16, .int .i64 15, .int .i64 0] : Array Value) 3 (0, 0)
    clear tp6 hP0 hP1 hP2
    generalize (#[.int .i64 16, .int .i64 16, .int .i64 16, .int .i64 15, .int .i64 0] : Array Value) = AA at *
    generalize wc.alloc (.cells AA 3) = wd at *
    generalize wc.heap.size = BA at *
    replace hP0 : wd.cell? ⟨BhP, 0, none⟩ = some (.string d) := hP.c0
    replace hP1 : wd.cell? ⟨BhP, 1, none⟩ = some (.int .i64 v) := hP.c1
    replace hP2 : wd.cell? ⟨BhP, 2, none⟩ = some (.int .i64 e) := hP.c2
    refine (next_tp 5 _ _ _ _ _ _ (by omega) (by omega) tp7).mono ?_
    rintro e w7 ⟨r5, ra5, rb5, rfl, hk, tpn⟩
    replace hk := hk.tock
    replace hP := hP.tock hPt hk
    replace HK := Lib.hid (HK.out.trans hk)
    replace hP0 : w7.cell? ⟨BhP, 0, none⟩ = some (.string d) := hP.c0
    replace hP1 : w7.cell? ⟨BhP, 1, none⟩ = some (.int .i64 v) := hP.c1
    replace hP2 : w7.cell? ⟨BhP, 2, none⟩ = some (.int .i64 e) := hP.c2
    have hkk := hk; clear hk tp7
    have tp7 := tpn
    clear tpn
    obtain ⟨n5, hn5, hs5⟩ := HS5.out r5 ra5 rb5
    have hcell : w7.cell? ⟨BA, r5.toNat, none⟩ = some (.int .i64 (n5 : Int)) := by rw [hkk.cell hct hcl, hcc]; exact hs5
    have hr5 : (r5 : Int) < 5 := rb5
    clear hs5 HS5 hcc hkk
    go_wp2_with fail
    clear hr5 hcell hct hcl
    refine (bytes_any n5 _ _ _ _ _ _ (by omega) tp7).mono ?_
    rintro e w9 ⟨s1, hs1, rfl, hk, tpn⟩
    replace hP := hP.tock hPt hk
    replace HK := Lib.hid (HK.out.trans hk)
    replace hP0 : w9.cell? ⟨BhP, 0, none⟩ = some (.string d) := hP.c0
    replace hP1 : w9.cell? ⟨BhP, 1, none⟩ = some (.int .i64 v) := hP.c1
    replace hP2 : w9.cell? ⟨BhP, 2, none⟩ = some (.int .i64 e) := hP.c2
    clear hk tp7
    have tp9 := tpn
    clear tpn
    have hs1' : s1.size ≤ maxLen := by unfold maxLen; omega
    have HS1 := Lib.hid hs1'
    clear hs1 hs1'
    go_wp2_with fail
    refine (next_tp 18 _ _ _ _ _ _ (by omega) (by omega) tp9).mono ?_
    rintro e w10 ⟨r6, ra6, rb6, rfl, hk, tpn⟩
    replace hk := hk.tock
    replace hP := hP.tock hPt hk
    replace HK := Lib.hid (HK.out.trans hk)
    replace hP0 : w10.cell? ⟨BhP, 0, none⟩ = some (.string d) := hP.c0
    replace hP1 : w10.cell? ⟨BhP, 1, none⟩ = some (.int .i64 v) := hP.c1
    replace hP2 : w10.cell? ⟨BhP, 2, none⟩ = some (.int .i64 e) := hP.c2
    clear hk tp9
    have tp10 := tpn
    clear tpn
    obtain ⟨n6, rfl⟩ := Int.eq_ofNat_of_zero_le ra6
    go_wp2_with fail
    refine (bytes_any n6 _ _ _ _ _ _ (by omega) tp10).mono ?_
    rintro e w11 ⟨s2, hs2, rfl, hk, tpn⟩
    replace hP := hP.tock hPt hk
    replace HK := Lib.hid (HK.out.trans hk)
    replace hP0 : w11.cell? ⟨BhP, 0, none⟩ = some (.string d) := hP.c0
    replace hP1 : w11.cell? ⟨BhP, 1, none⟩ = some (.int .i64 v) := hP.c1
    replace hP2 : w11.cell? ⟨BhP, 2, none⟩ = some (.int .i64 e) := hP.c2
    clear hk tp10
    have tp11 := tpn
    clear tpn
    have hs2' : s2.size ≤ maxLen := by unfold maxLen; omega
    have HS2 := Lib.hid hs2'
    clear hs2 hs2'
    have HB := Lib.hid tp11.bel
    clear tp11
    have hd : d.size ≤ maxLen := by unfold maxLen; omega
    clear HK
    have pA := fun w => fill_any ⟨d, v, e⟩ (r1 - 1) s1 w hd HS1.out
    have qA := fun w => fillR_any ⟨d, v, e⟩ (r1 - 1) s1 w hd HS1.out
    generalize fillV ⟨d, v, e⟩ (r1 - 1) s1 = xA at pA qA
    obtain ⟨⟨dA, vA, eA⟩, xA⟩ := xA
    simp only [Pg.val] at pA qA
    have PA := Lib.hid pA
    have QA := Lib.hid qA
    clear pA qA
    have pB := fun w => write_any ⟨d, v, e⟩ off s2 w hd HS2.out
    have qB := fun w => writeR_any ⟨d, v, e⟩ off s2 w hd HS2.out offl offh
    generalize writeV ⟨d, v, e⟩ off s2 = xB at pB qB
    obtain ⟨⟨dB, vB, eB⟩, xB⟩ := xB
    simp only [Pg.val] at pB qB
    have PB := Lib.hid pB
    have QB := Lib.hid qB
    clear pB qB
    have pC := fun w => clean_any ⟨d, v, e⟩ (r1 - 1) w hd
    have qC := fun w => cleanR_any ⟨d, v, e⟩ (r1 - 1) w hd
    generalize cleanV ⟨d, v, e⟩ (r1 - 1) = xC at pC qC
    obtain ⟨⟨dC, vC, eC⟩, xC⟩ := xC
    simp only [Pg.val] at pC qC
    have PC := Lib.hid pC
    have QC := Lib.hid qC
    clear pC qC
    have pD := fun w => soil_any ⟨d, v, e⟩ (r1 - 1) w hd
    have qD := fun w => soilR_any ⟨d, v, e⟩ (r1 - 1) w hd
    generalize soilV ⟨d, v, e⟩ (r1 - 1) = xD at pD qD
    obtain ⟨⟨dD, vD, eD⟩, xD⟩ := xD
    simp only [Pg.val] at pD qD
    have PD := Lib.hid pD
    have QD := Lib.hid qD
    clear pD qD
    clear hd hp offl offh ra1 rb1 ra2 rb2 ra3 rb3 ra5 rb5 ra6 rb6 hPt
    go_wp2_with fail
    refine (PA.out _).mono ?_; rintro e w12 ⟨rfl, hb⟩
    replace HB := Lib.hid (HB.out.trans (hb.mono HB.out.size))
    replace hP := hP.below hb
    replace hP0 : w12.cell? ⟨BhP, 0, none⟩ = some (.string d) := hP.c0
    replace hP1 : w12.cell? ⟨BhP, 1, none⟩ = some (.int .i64 v) := hP.c1
    replace hP2 : w12.cell? ⟨BhP, 2, none⟩ = some (.int .i64 e) := hP.c2
    clear hb
    have hPlt := hP.lt
    go_wp2_with fail
    clear hPlt
    have hA := Has.new w12 dA vA eA
    replace hP := hP.alloc (.cells #[.string dA, .int .i64 vA, .int .i64 eA] 27)
    replace HB := Lib.hid (HB.out.alloc HB.out.size (.cells #[.string dA, .int .i64 vA, .int .i64 eA] 27))
    clear hP0 hP1 hP2
    generalize w12.alloc (.cells #[.string dA, .int .i64 vA, .int .i64 eA] 27) = w13 at *
    generalize w12.heap.size = BhA at *
    replace hP0 : w13.cell? ⟨BhP, 0, none⟩ = some (.string d) := hP.c0
    replace hP1 : w13.cell? ⟨BhP, 1, none⟩ = some (.int .i64 v) := hP.c1
    replace hP2 : w13.cell? ⟨BhP, 2, none⟩ = some (.int .i64 e) := hP.c2
    replace hA0 : w13.cell? ⟨BhA, 0, none⟩ = some (.string dA) := hA.c0
    replace hA1 : w13.cell? ⟨BhA, 1, none⟩ = some (.int .i64 vA) := hA.c1
    replace hA2 : w13.cell? ⟨BhA, 2, none⟩ = some (.int .i64 eA) := hA.c2
    refine (QA.out _).mono ?_; rintro e w14 ⟨rfl, hb⟩
    replace HB := Lib.hid (HB.out.trans (hb.mono HB.out.size))
    replace hP := hP.below hb
    replace hA := hA.below hb
    replace hP0 : w14.cell? ⟨BhP, 0, none⟩ = some (.string d) := hP.c0
    replace hP1 : w14.cell? ⟨BhP, 1, none⟩ = some (.int .i64 v) := hP.c1
    replace hP2 : w14.cell? ⟨BhP, 2, none⟩ = some (.int .i64 e) := hP.c2
    replace hA0 : w14.cell? ⟨BhA, 0, none⟩ = some (.string dA) := hA.c0
    replace hA1 : w14.cell? ⟨BhA, 1, none⟩ = some (.int .i64 vA) := hA.c1
    replace hA2 : w14.cell? ⟨BhA, 2, none⟩ = some (.int .i64 eA) := hA.c2
    clear hb
    have hPlt := hP.lt
    go_wp2_with fail
    clear hPlt
    have kA := Has.new w14 dA vA eA
    replace hP := hP.alloc (.cells #[.string dA, .int .i64 vA, .int .i64 eA] 27)
    replace hA := hA.alloc (.cells #[.string dA, .int .i64 vA, .int .i64 eA] 27)
    replace HB := Lib.hid (HB.out.alloc HB.out.size (.cells #[.string dA, .int .i64 vA, .int .i64 eA] 27))
    clear hP0 hP1 hP2 hA0 hA1 hA2
    generalize w14.alloc (.cells #[.string dA, .int .i64 vA, .int .i64 eA] 27) = w15 at *
    generalize w14.heap.size = BkA at *
    replace hP0 : w15.cell? ⟨BhP, 0, none⟩ = some (.string d) := hP.c0
    replace hP1 : w15.cell? ⟨BhP, 1, none⟩ = some (.int .i64 v) := hP.c1
    replace hP2 : w15.cell? ⟨BhP, 2, none⟩ = some (.int .i64 e) := hP.c2
    replace hA0 : w15.cell? ⟨BhA, 0, none⟩ = some (.string dA) := hA.c0
    replace hA1 : w15.cell? ⟨BhA, 1, none⟩ = some (.int .i64 vA) := hA.c1
    replace hA2 : w15.cell? ⟨BhA, 2, none⟩ = some (.int .i64 eA) := hA.c2
    replace kA0 : w15.cell? ⟨BkA, 0, none⟩ = some (.string dA) := kA.c0
    replace kA1 : w15.cell? ⟨BkA, 1, none⟩ = some (.int .i64 vA) := kA.c1
    replace kA2 : w15.cell? ⟨BkA, 2, none⟩ = some (.int .i64 eA) := kA.c2
    refine (PB.out _).mono ?_; rintro e w16 ⟨rfl, hb⟩
    replace HB := Lib.hid (HB.out.trans (hb.mono HB.out.size))
    replace hP := hP.below hb
    replace hA := hA.below hb
    replace kA := kA.below hb
    replace hP0 : w16.cell? ⟨BhP, 0, none⟩ = some (.string d) := hP.c0
    replace hP1 : w16.cell? ⟨BhP, 1, none⟩ = some (.int .i64 v) := hP.c1
    replace hP2 : w16.cell? ⟨BhP, 2, none⟩ = some (.int .i64 e) := hP.c2
    replace hA0 : w16.cell? ⟨BhA, 0, none⟩ = some (.string dA) := hA.c0
    replace hA1 : w16.cell? ⟨BhA, 1, none⟩ = some (.int .i64 vA) := hA.c1
    replace hA2 : w16.cell? ⟨BhA, 2, none⟩ = some (.int .i64 eA) := hA.c2
    replace kA0 : w16.cell? ⟨BkA, 0, none⟩ = some (.string dA) := kA.c0
    replace kA1 : w16.cell? ⟨BkA, 1, none⟩ = some (.int .i64 vA) := kA.c1
    replace kA2 : w16.cell? ⟨BkA, 2, none⟩ = some (.int .i64 eA) := kA.c2
    clear hb
    have hPlt := hP.lt
    go_wp2_with fail
    clear hPlt
    have hB := Has.new w16 dB vB eB
    replace hP := hP.alloc (.cells #[.string dB, .int .i64 vB, .int .i64 eB] 27)
    replace hA := hA.alloc (.cells #[.string dB, .int .i64 vB, .int .i64 eB] 27)
    replace kA := kA.alloc (.cells #[.string dB, .int .i64 vB, .int .i64 eB] 27)
    replace HB := Lib.hid (HB.out.alloc HB.out.size (.cells #[.string dB, .int .i64 vB, .int .i64 eB] 27))
    clear hP0 hP1 hP2 hA0 hA1 hA2 kA0 kA1 kA2
    generalize w16.alloc (.cells #[.string dB, .int .i64 vB, .int .i64 eB] 27) = w17 at *
    generalize w16.heap.size = BhB at *
    replace hP0 : w17.cell? ⟨BhP, 0, none⟩ = some (.string d) := hP.c0
    replace hP1 : w17.cell? ⟨BhP, 1, none⟩ = some (.int .i64 v) := hP.c1
    replace hP2 : w17.cell? ⟨BhP, 2, none⟩ = some (.int .i64 e) := hP.c2
    replace hA0 : w17.cell? ⟨BhA, 0, none⟩ = some (.string dA) := hA.c0
    replace hA1 : w17.cell? ⟨BhA, 1, none⟩ = some (.int .i64 vA) := hA.c1
    replace hA2 : w17.cell? ⟨BhA, 2, none⟩ = some (.int .i64 eA) := hA.c2
    replace kA0 : w17.cell? ⟨BkA, 0, none⟩ = some (.string dA) := kA.c0
    replace kA1 : w17.cell? ⟨BkA, 1, none⟩ = some (.int .i64 vA) := kA.c1
    replace kA2 : w17.cell? ⟨BkA, 2, none⟩ = some (.int .i64 eA) := kA.c2
    replace hB0 : w17.cell? ⟨BhB, 0, none⟩ = some (.string dB) := hB.c0
    replace hB1 : w17.cell? ⟨BhB, 1, none⟩ = some (.int .i64 vB) := hB.c1
    replace hB2 : w17.cell? ⟨BhB, 2, none⟩ = some (.int .i64 eB) := hB.c2
    refine (QB.out _).mono ?_; rintro e w18 ⟨rfl, hb⟩
    replace HB := Lib.hid (HB.out.trans (hb.mono HB.out.size))
    replace hP := hP.below hb
    replace hA := hA.below hb
    replace kA := kA.below hb
    replace hB := hB.below hb
    replace hP0 : w18.cell? ⟨BhP, 0, none⟩ = some (.string d) := hP.c0
    replace hP1 : w18.cell? ⟨BhP, 1, none⟩ = some (.int .i64 v) := hP.c1
    replace hP2 : w18.cell? ⟨BhP, 2, none⟩ = some (.int .i64 e) := hP.c2
    replace hA0 : w18.cell? ⟨BhA, 0, none⟩ = some (.string dA) := hA.c0
    replace hA1 : w18.cell? ⟨BhA, 1, none⟩ = some (.int .i64 vA) := hA.c1
    replace hA2 : w18.cell? ⟨BhA, 2, none⟩ = some (.int .i64 eA) := hA.c2
    replace kA0 : w18.cell? ⟨BkA, 0, none⟩ = some (.string dA) := kA.c0
    replace kA1 : w18.cell? ⟨BkA, 1, none⟩ = some (.int .i64 vA) := kA.c1
    replace kA2 : w18.cell? ⟨BkA, 2, none⟩ = some (.int .i64 eA) := kA.c2
    replace hB0 : w18.cell? ⟨BhB, 0, none⟩ = some (.string dB) := hB.c0
    replace hB1 : w18.cell? ⟨BhB, 1, none⟩ = some (.int .i64 vB) := hB.c1
    replace hB2 : w18.cell? ⟨BhB, 2, none⟩ = some (.int .i64 eB) := hB.c2
    clear hb
    have hPlt := hP.lt
    go_wp2_with fail
    clear hPlt
    have kB := Has.new w18 dB vB eB
    replace hP := hP.alloc (.cells #[.string dB, .int .i64 vB, .int .i64 eB] 27)
    replace hA := hA.alloc (.cells #[.string dB, .int .i64 vB, .int .i64 eB] 27)
    replace kA := kA.alloc (.cells #[.string dB, .int .i64 vB, .int .i64 eB] 27)
    replace hB := hB.alloc (.cells #[.string dB, .int .i64 vB, .int .i64 eB] 27)
    replace HB := Lib.hid (HB.out.alloc HB.out.size (.cells #[.string dB, .int .i64 vB, .int .i64 eB] 27))
    clear hP0 hP1 hP2 hA0 hA1 hA2 kA0 kA1 kA2 hB0 hB1 hB2
    generalize w18.alloc (.cells #[.string dB, .int .i64 vB, .int .i64 eB] 27) = w19 at *
    generalize w18.heap.size = BkB at *
    replace hP0 : w19.cell? ⟨BhP, 0, none⟩ = some (.string d) := hP.c0
    replace hP1 : w19.cell? ⟨BhP, 1, none⟩ = some (.int .i64 v) := hP.c1
    replace hP2 : w19.cell? ⟨BhP, 2, none⟩ = some (.int .i64 e) := hP.c2
    replace hA0 : w19.cell? ⟨BhA, 0, none⟩ = some (.string dA) := hA.c0
    replace hA1 : w19.cell? ⟨BhA, 1, none⟩ = some (.int .i64 vA) := hA.c1
    replace hA2 : w19.cell? ⟨BhA, 2, none⟩ = some (.int .i64 eA) := hA.c2
    replace kA0 : w19.cell? ⟨BkA, 0, none⟩ = some (.string dA) := kA.c0
    replace kA1 : w19.cell? ⟨BkA, 1, none⟩ = some (.int .i64 vA) := kA.c1
    replace kA2 : w19.cell? ⟨BkA, 2, none⟩ = some (.int .i64 eA) := kA.c2
    replace hB0 : w19.cell? ⟨BhB, 0, none⟩ = some (.string dB) := hB.c0
    replace hB1 : w19.cell? ⟨BhB, 1, none⟩ = some (.int .i64 vB) := hB.c1
    replace hB2 : w19.cell? ⟨BhB, 2, none⟩ = some (.int .i64 eB) := hB.c2
    replace kB0 : w19.cell? ⟨BkB, 0, none⟩ = some (.string dB) := kB.c0
    replace kB1 : w19.cell? ⟨BkB, 1, none⟩ = some (.int .i64 vB) := kB.c1
    replace kB2 : w19.cell? ⟨BkB, 2, none⟩ = some (.int .i64 eB) := kB.c2
    refine (PC.out _).mono ?_; rintro e w20 ⟨rfl, hb⟩
    replace HB := Lib.hid (HB.out.trans (hb.mono HB.out.size))
    replace hP := hP.below hb
    replace hA := hA.below hb
    replace kA := kA.below hb
    replace hB := hB.below hb
    replace kB := kB.below hb
    replace hP0 : w20.cell? ⟨BhP, 0, none⟩ = some (.string d) := hP.c0
    replace hP1 : w20.cell? ⟨BhP, 1, none⟩ = some (.int .i64 v) := hP.c1
    replace hP2 : w20.cell? ⟨BhP, 2, none⟩ = some (.int .i64 e) := hP.c2
    replace hA0 : w20.cell? ⟨BhA, 0, none⟩ = some (.string dA) := hA.c0
    replace hA1 : w20.cell? ⟨BhA, 1, none⟩ = some (.int .i64 vA) := hA.c1
    replace hA2 : w20.cell? ⟨BhA, 2, none⟩ = some (.int .i64 eA) := hA.c2
    replace kA0 : w20.cell? ⟨BkA, 0, none⟩ = some (.string dA) := kA.c0
    replace kA1 : w20.cell? ⟨BkA, 1, none⟩ = some (.int .i64 vA) := kA.c1
    replace kA2 : w20.cell? ⟨BkA, 2, none⟩ = some (.int .i64 eA) := kA.c2
    replace hB0 : w20.cell? ⟨BhB, 0, none⟩ = some (.string dB) := hB.c0
    replace hB1 : w20.cell? ⟨BhB, 1, none⟩ = some (.int .i64 vB) := hB.c1
    replace hB2 : w20.cell? ⟨BhB, 2, none⟩ = some (.int .i64 eB) := hB.c2
    replace kB0 : w20.cell? ⟨BkB, 0, none⟩ = some (.string dB) := kB.c0
    replace kB1 : w20.cell? ⟨BkB, 1, none⟩ = some (.int .i64 vB) := kB.c1
    replace kB2 : w20.cell? ⟨BkB, 2, none⟩ = some (.int .i64 eB) := kB.c2
    clear hb
    have hPlt := hP.lt
    go_wp2_with fail
    clear hPlt
    have hC := Has.new w20 dC vC eC
    replace hP := hP.alloc (.cells #[.string dC, .int .i64 vC, .int .i64 eC] 27)
    replace hA := hA.alloc (.cells #[.string dC, .int .i64 vC, .int .i64 eC] 27)
    replace kA := kA.alloc (.cells #[.string dC, .int .i64 vC, .int .i64 eC] 27)
    replace hB := hB.alloc (.cells #[.string dC, .int .i64 vC, .int .i64 eC] 27)
    replace kB := kB.alloc (.cells #[.string dC, .int .i64 vC, .int .i64 eC] 27)
    replace HB := Lib.hid (HB.out.alloc HB.out.size (.cells #[.string dC, .int .i64 vC, .int .i64 eC] 27))
    clear hP0 hP1 hP2 hA0 hA1 hA2 kA0 kA1 kA2 hB0 hB1 hB2 kB0 kB1 kB2
    generalize w20.alloc (.cells #[.string dC, .int .i64 vC, .int .i64 eC] 27) = w21 at *
    generalize w20.heap.size = BhC at *
    replace hP0 : w21.cell? ⟨BhP, 0, none⟩ = some (.string d) := hP.c0
    replace hP1 : w21.cell? ⟨BhP, 1, none⟩ = some (.int .i64 v) := hP.c1
    replace hP2 : w21.cell? ⟨BhP, 2, none⟩ = some (.int .i64 e) := hP.c2
    replace hA0 : w21.cell? ⟨BhA, 0, none⟩ = some (.string dA) := hA.c0
    replace hA1 : w21.cell? ⟨BhA, 1, none⟩ = some (.int .i64 vA) := hA.c1
    replace hA2 : w21.cell? ⟨BhA, 2, none⟩ = some (.int .i64 eA) := hA.c2
    replace kA0 : w21.cell? ⟨BkA, 0, none⟩ = some (.string dA) := kA.c0
    replace kA1 : w21.cell? ⟨BkA, 1, none⟩ = some (.int .i64 vA) := kA.c1
    replace kA2 : w21.cell? ⟨BkA, 2, none⟩ = some (.int .i64 eA) := kA.c2
    replace hB0 : w21.cell? ⟨BhB, 0, none⟩ = some (.string dB) := hB.c0
    replace hB1 : w21.cell? ⟨BhB, 1, none⟩ = some (.int .i64 vB) := hB.c1
    replace hB2 : w21.cell? ⟨BhB, 2, none⟩ = some (.int .i64 eB) := hB.c2
    replace kB0 : w21.cell? ⟨BkB, 0, none⟩ = some (.string dB) := kB.c0
    replace kB1 : w21.cell? ⟨BkB, 1, none⟩ = some (.int .i64 vB) := kB.c1
    replace kB2 : w21.cell? ⟨BkB, 2, none⟩ = some (.int .i64 eB) := kB.c2
    replace hC0 : w21.cell? ⟨BhC, 0, none⟩ = some (.string dC) := hC.c0
    replace hC1 : w21.cell? ⟨BhC, 1, none⟩ = some (.int .i64 vC) := hC.c1
    replace hC2 : w21.cell? ⟨BhC, 2, none⟩ = some (.int .i64 eC) := hC.c2
    refine (QC.out _).mono ?_; rintro e w22 ⟨rfl, hb⟩
    replace HB := Lib.hid (HB.out.trans (hb.mono HB.out.size))
    replace hP := hP.below hb
    replace hA := hA.below hb
    replace kA := kA.below hb
    replace hB := hB.below hb
    replace kB := kB.below hb
    replace hC := hC.below hb
    replace hP0 : w22.cell? ⟨BhP, 0, none⟩ = some (.string d) := hP.c0
    replace hP1 : w22.cell? ⟨BhP, 1, none⟩ = some (.int .i64 v) := hP.c1
    replace hP2 : w22.cell? ⟨BhP, 2, none⟩ = some (.int .i64 e) := hP.c2
    replace hA0 : w22.cell? ⟨BhA, 0, none⟩ = some (.string dA) := hA.c0
    replace hA1 : w22.cell? ⟨BhA, 1, none⟩ = some (.int .i64 vA) := hA.c1
    replace hA2 : w22.cell? ⟨BhA, 2, none⟩ = some (.int .i64 eA) := hA.c2
    replace kA0 : w22.cell? ⟨BkA, 0, none⟩ = some (.string dA) := kA.c0
    replace kA1 : w22.cell? ⟨BkA, 1, none⟩ = some (.int .i64 vA) := kA.c1
    replace kA2 : w22.cell? ⟨BkA, 2, none⟩ = some (.int .i64 eA) := kA.c2
    replace hB0 : w22.cell? ⟨BhB, 0, none⟩ = some (.string dB) := hB.c0
    replace hB1 : w22.cell? ⟨BhB, 1, none⟩ = some (.int .i64 vB) := hB.c1
    replace hB2 : w22.cell? ⟨BhB, 2, none⟩ = some (.int .i64 eB) := hB.c2
    replace kB0 : w22.cell? ⟨BkB, 0, none⟩ = some (.string dB) := kB.c0
    replace kB1 : w22.cell? ⟨BkB, 1, none⟩ = some (.int .i64 vB) := kB.c1
    replace kB2 : w22.cell? ⟨BkB, 2, none⟩ = some (.int .i64 eB) := kB.c2
    replace hC0 : w22.cell? ⟨BhC, 0, none⟩ = some (.string dC) := hC.c0
    replace hC1 : w22.cell? ⟨BhC, 1, none⟩ = some (.int .i64 vC) := hC.c1
    replace hC2 : w22.cell? ⟨BhC, 2, none⟩ = some (.int .i64 eC) := hC.c2
    clear hb
    have hPlt := hP.lt
    go_wp2_with fail
    clear hPlt
    have kC := Has.new w22 dC vC eC
    replace hP := hP.alloc (.cells #[.string dC, .int .i64 vC, .int .i64 eC] 27)
    replace hA := hA.alloc (.cells #[.string dC, .int .i64 vC, .int .i64 eC] 27)
    replace kA := kA.alloc (.cells #[.string dC, .int .i64 vC, .int .i64 eC] 27)
    replace hB := hB.alloc (.cells #[.string dC, .int .i64 vC, .int .i64 eC] 27)
    replace kB := kB.alloc (.cells #[.string dC, .int .i64 vC, .int .i64 eC] 27)
    replace hC := hC.alloc (.cells #[.string dC, .int .i64 vC, .int .i64 eC] 27)
    replace HB := Lib.hid (HB.out.alloc HB.out.size (.cells #[.string dC, .int .i64 vC, .int .i64 eC] 27))
    clear hP0 hP1 hP2 hA0 hA1 hA2 kA0 kA1 kA2 hB0 hB1 hB2 kB0 kB1 kB2 hC0 hC1 hC2
    generalize w22.alloc (.cells #[.string dC, .int .i64 vC, .int .i64 eC] 27) = w23 at *
    generalize w22.heap.size = BkC at *
    replace hP0 : w23.cell? ⟨BhP, 0, none⟩ = some (.string d) := hP.c0
    replace hP1 : w23.cell? ⟨BhP, 1, none⟩ = some (.int .i64 v) := hP.c1
    replace hP2 : w23.cell? ⟨BhP, 2, none⟩ = some (.int .i64 e) := hP.c2
    replace hA0 : w23.cell? ⟨BhA, 0, none⟩ = some (.string dA) := hA.c0
    replace hA1 : w23.cell? ⟨BhA, 1, none⟩ = some (.int .i64 vA) := hA.c1
    replace hA2 : w23.cell? ⟨BhA, 2, none⟩ = some (.int .i64 eA) := hA.c2
    replace kA0 : w23.cell? ⟨BkA, 0, none⟩ = some (.string dA) := kA.c0
    replace kA1 : w23.cell? ⟨BkA, 1, none⟩ = some (.int .i64 vA) := kA.c1
    replace kA2 : w23.cell? ⟨BkA, 2, none⟩ = some (.int .i64 eA) := kA.c2
    replace hB0 : w23.cell? ⟨BhB, 0, none⟩ = some (.string dB) := hB.c0
    replace hB1 : w23.cell? ⟨BhB, 1, none⟩ = some (.int .i64 vB) := hB.c1
    replace hB2 : w23.cell? ⟨BhB, 2, none⟩ = some (.int .i64 eB) := hB.c2
    replace kB0 : w23.cell? ⟨BkB, 0, none⟩ = some (.string dB) := kB.c0
    replace kB1 : w23.cell? ⟨BkB, 1, none⟩ = some (.int .i64 vB) := kB.c1
    replace kB2 : w23.cell? ⟨BkB, 2, none⟩ = some (.int .i64 eB) := kB.c2
    replace hC0 : w23.cell? ⟨BhC, 0, none⟩ = some (.string dC) := hC.c0
    replace hC1 : w23.cell? ⟨BhC, 1, none⟩ = some (.int .i64 vC) := hC.c1
    replace hC2 : w23.cell? ⟨BhC, 2, none⟩ = some (.int .i64 eC) := hC.c2
    replace kC0 : w23.cell? ⟨BkC, 0, none⟩ = some (.string dC) := kC.c0
    replace kC1 : w23.cell? ⟨BkC, 1, none⟩ = some (.int .i64 vC) := kC.c1
    replace kC2 : w23.cell? ⟨BkC, 2, none⟩ = some (.int .i64 eC) := kC.c2
    refine (PD.out _).mono ?_; rintro e w24 ⟨rfl, hb⟩
    replace HB := Lib.hid (HB.out.trans (hb.mono HB.out.size))
    replace hP := hP.below hb
    replace hA := hA.below hb
    replace kA := kA.below hb
    replace hB := hB.below hb
    replace kB := kB.below hb
    replace hC := hC.below hb
    replace kC := kC.below hb
    replace hP0 : w24.cell? ⟨BhP, 0, none⟩ = some (.string d) := hP.c0
    replace hP1 : w24.cell? ⟨BhP, 1, none⟩ = some (.int .i64 v) := hP.c1
    replace hP2 : w24.cell? ⟨BhP, 2, none⟩ = some (.int .i64 e) := hP.c2
    replace hA0 : w24.cell? ⟨BhA, 0, none⟩ = some (.string dA) := hA.c0
    replace hA1 : w24.cell? ⟨BhA, 1, none⟩ = some (.int .i64 vA) := hA.c1
    replace hA2 : w24.cell? ⟨BhA, 2, none⟩ = some (.int .i64 eA) := hA.c2
    replace kA0 : w24.cell? ⟨BkA, 0, none⟩ = some (.string dA) := kA.c0
    replace kA1 : w24.cell? ⟨BkA, 1, none⟩ = some (.int .i64 vA) := kA.c1
    replace kA2 : w24.cell? ⟨BkA, 2, none⟩ = some (.int .i64 eA) := kA.c2
    replace hB0 : w24.cell? ⟨BhB, 0, none⟩ = some (.string dB) := hB.c0
    replace hB1 : w24.cell? ⟨BhB, 1, none⟩ = some (.int .i64 vB) := hB.c1
    replace hB2 : w24.cell? ⟨BhB, 2, none⟩ = some (.int .i64 eB) := hB.c2
    replace kB0 : w24.cell? ⟨BkB, 0, none⟩ = some (.string dB) := kB.c0
    replace kB1 : w24.cell? ⟨BkB, 1, none⟩ = some (.int .i64 vB) := kB.c1
    replace kB2 : w24.cell? ⟨BkB, 2, none⟩ = some (.int .i64 eB) := kB.c2
    replace hC0 : w24.cell? ⟨BhC, 0, none⟩ = some (.string dC) := hC.c0
    replace hC1 : w24.cell? ⟨BhC, 1, none⟩ = some (.int .i64 vC) := hC.c1
    replace hC2 : w24.cell? ⟨BhC, 2, none⟩ = some (.int .i64 eC) := hC.c2
    replace kC0 : w24.cell? ⟨BkC, 0, none⟩ = some (.string dC) := kC.c0
    replace kC1 : w24.cell? ⟨BkC, 1, none⟩ = some (.int .i64 vC) := kC.c1
    replace kC2 : w24.cell? ⟨BkC, 2, none⟩ = some (.int .i64 eC) := kC.c2
    clear hb
    have hPlt := hP.lt
    go_wp2_with fail
    clear hPlt
    have hD := Has.new w24 dD vD eD
    replace hP := hP.alloc (.cells #[.string dD, .int .i64 vD, .int .i64 eD] 27)
    replace hA := hA.alloc (.cells #[.string dD, .int .i64 vD, .int .i64 eD] 27)
    replace kA := kA.alloc (.cells #[.string dD, .int .i64 vD, .int .i64 eD] 27)
    replace hB := hB.alloc (.cells #[.string dD, .int .i64 vD, .int .i64 eD] 27)
    replace kB := kB.alloc (.cells #[.string dD, .int .i64 vD, .int .i64 eD] 27)
    replace hC := hC.alloc (.cells #[.string dD, .int .i64 vD, .int .i64 eD] 27)
    replace kC := kC.alloc (.cells #[.string dD, .int .i64 vD, .int .i64 eD] 27)
    replace HB := Lib.hid (HB.out.alloc HB.out.size (.cells #[.string dD, .int .i64 vD, .int .i64 eD] 27))
    clear hP0 hP1 hP2 hA0 hA1 hA2 kA0 kA1 kA2 hB0 hB1 hB2 kB0 kB1 kB2 hC0 hC1 hC2 kC0 kC1 kC2
    generalize w24.alloc (.cells #[.string dD, .int .i64 vD, .int .i64 eD] 27) = w25 at *
    generalize w24.heap.size = BhD at *
    replace hP0 : w25.cell? ⟨BhP, 0, none⟩ = some (.string d) := hP.c0
    replace hP1 : w25.cell? ⟨BhP, 1, none⟩ = some (.int .i64 v) := hP.c1
    replace hP2 : w25.cell? ⟨BhP, 2, none⟩ = some (.int .i64 e) := hP.c2
    replace hA0 : w25.cell? ⟨BhA, 0, none⟩ = some (.string dA) := hA.c0
    replace hA1 : w25.cell? ⟨BhA, 1, none⟩ = some (.int .i64 vA) := hA.c1
    replace hA2 : w25.cell? ⟨BhA, 2, none⟩ = some (.int .i64 eA) := hA.c2
    replace kA0 : w25.cell? ⟨BkA, 0, none⟩ = some (.string dA) := kA.c0
    replace kA1 : w25.cell? ⟨BkA, 1, none⟩ = some (.int .i64 vA) := kA.c1
    replace kA2 : w25.cell? ⟨BkA, 2, none⟩ = some (.int .i64 eA) := kA.c2
    replace hB0 : w25.cell? ⟨BhB, 0, none⟩ = some (.string dB) := hB.c0
    replace hB1 : w25.cell? ⟨BhB, 1, none⟩ = some (.int .i64 vB) := hB.c1
    replace hB2 : w25.cell? ⟨BhB, 2, none⟩ = some (.int .i64 eB) := hB.c2
    replace kB0 : w25.cell? ⟨BkB, 0, none⟩ = some (.string dB) := kB.c0
    replace kB1 : w25.cell? ⟨BkB, 1, none⟩ = some (.int .i64 vB) := kB.c1
    replace kB2 : w25.cell? ⟨BkB, 2, none⟩ = some (.int .i64 eB) := kB.c2
    replace hC0 : w25.cell? ⟨BhC, 0, none⟩ = some (.string dC) := hC.c0
    replace hC1 : w25.cell? ⟨BhC, 1, none⟩ = some (.int .i64 vC) := hC.c1
    replace hC2 : w25.cell? ⟨BhC, 2, none⟩ = some (.int .i64 eC) := hC.c2
    replace kC0 : w25.cell? ⟨BkC, 0, none⟩ = some (.string dC) := kC.c0
    replace kC1 : w25.cell? ⟨BkC, 1, none⟩ = some (.int .i64 vC) := kC.c1
    replace kC2 : w25.cell? ⟨BkC, 2, none⟩ = some (.int .i64 eC) := kC.c2
    replace hD0 : w25.cell? ⟨BhD, 0, none⟩ = some (.string dD) := hD.c0
    replace hD1 : w25.cell? ⟨BhD, 1, none⟩ = some (.int .i64 vD) := hD.c1
    replace hD2 : w25.cell? ⟨BhD, 2, none⟩ = some (.int .i64 eD) := hD.c2
    refine (QD.out _).mono ?_; rintro e w26 ⟨rfl, hb⟩
    replace HB := Lib.hid (HB.out.trans (hb.mono HB.out.size))
    replace hP := hP.below hb
    replace hA := hA.below hb
    replace kA := kA.below hb
    replace hB := hB.below hb
    replace kB := kB.below hb
    replace hC := hC.below hb
    replace kC := kC.below hb
    replace hD := hD.below hb
    replace hP0 : w26.cell? ⟨BhP, 0, none⟩ = some (.string d) := hP.c0
    replace hP1 : w26.cell? ⟨BhP, 1, none⟩ = some (.int .i64 v) := hP.c1
    replace hP2 : w26.cell? ⟨BhP, 2, none⟩ = some (.int .i64 e) := hP.c2
    replace hA0 : w26.cell? ⟨BhA, 0, none⟩ = some (.string dA) := hA.c0
    replace hA1 : w26.cell? ⟨BhA, 1, none⟩ = some (.int .i64 vA) := hA.c1
    replace hA2 : w26.cell? ⟨BhA, 2, none⟩ = some (.int .i64 eA) := hA.c2
    replace kA0 : w26.cell? ⟨BkA, 0, none⟩ = some (.string dA) := kA.c0
    replace kA1 : w26.cell? ⟨BkA, 1, none⟩ = some (.int .i64 vA) := kA.c1
    replace kA2 : w26.cell? ⟨BkA, 2, none⟩ = some (.int .i64 eA) := kA.c2
    replace hB0 : w26.cell? ⟨BhB, 0, none⟩ = some (.string dB) := hB.c0
    replace hB1 : w26.cell? ⟨BhB, 1, none⟩ = some (.int .i64 vB) := hB.c1
    replace hB2 : w26.cell? ⟨BhB, 2, none⟩ = some (.int .i64 eB) := hB.c2
    replace kB0 : w26.cell? ⟨BkB, 0, none⟩ = some (.string dB) := kB.c0
    replace kB1 : w26.cell? ⟨BkB, 1, none⟩ = some (.int .i64 vB) := kB.c1
    replace kB2 : w26.cell? ⟨BkB, 2, none⟩ = some (.int .i64 eB) := kB.c2
    replace hC0 : w26.cell? ⟨BhC, 0, none⟩ = some (.string dC) := hC.c0
    replace hC1 : w26.cell? ⟨BhC, 1, none⟩ = some (.int .i64 vC) := hC.c1
    replace hC2 : w26.cell? ⟨BhC, 2, none⟩ = some (.int .i64 eC) := hC.c2
    replace kC0 : w26.cell? ⟨BkC, 0, none⟩ = some (.string dC) := kC.c0
    replace kC1 : w26.cell? ⟨BkC, 1, none⟩ = some (.int .i64 vC) := kC.c1
    replace kC2 : w26.cell? ⟨BkC, 2, none⟩ = some (.int .i64 eC) := kC.c2
    replace hD0 : w26.cell? ⟨BhD, 0, none⟩ = some (.string dD) := hD.c0
    replace hD1 : w26.cell? ⟨BhD, 1, none⟩ = some (.int .i64 vD) := hD.c1
    replace hD2 : w26.cell? ⟨BhD, 2, none⟩ = some (.int .i64 eD) := hD.c2
    clear hb
    have hPlt := hP.lt; have hAlt := hA.lt; have kAlt := kA.lt; have hBlt := hB.lt; have kBlt := kB.lt; have hClt := hC.lt; have kClt := kC.lt; have hDlt := hD.lt
    go_wp2_with fail
    clear hPlt hAlt kAlt hBlt kBlt hClt kClt hDlt
    have kD := Has.new w26 dD vD eD
    replace hP := hP.alloc (.cells #[.string dD, .int .i64 vD, .int .i64 eD] 27)
    replace hA := hA.alloc (.cells #[.string dD, .int .i64 vD, .int .i64 eD] 27)
    replace kA := kA.alloc (.cells #[.string dD, .int .i64 vD, .int .i64 eD] 27)
    replace hB := hB.alloc (.cells #[.string dD, .int .i64 vD, .int .i64 eD] 27)
    replace kB := kB.alloc (.cells #[.string dD, .int .i64 vD, .int .i64 eD] 27)
    replace hC := hC.alloc (.cells #[.string dD, .int .i64 vD, .int .i64 eD] 27)
    replace kC := kC.alloc (.cells #[.string dD, .int .i64 vD, .int .i64 eD] 27)
    replace hD := hD.alloc (.cells #[.string dD, .int .i64 vD, .int .i64 eD] 27)
    replace HB := Lib.hid (HB.out.alloc HB.out.size (.cells #[.string dD, .int .i64 vD, .int .i64 eD] 27))
    clear hP0 hP1 hP2 hA0 hA1 hA2 kA0 kA1 kA2 hB0 hB1 hB2 kB0 kB1 kB2 hC0 hC1 hC2 kC0 kC1 kC2 hD0 hD1 hD2
    generalize w26.alloc (.cells #[.string dD, .int .i64 vD, .int .i64 eD] 27) = w27 at *
    generalize w26.heap.size = BkD at *
    replace hP0 : w27.cell? ⟨BhP, 0, none⟩ = some (.string d) := hP.c0
    replace hP1 : w27.cell? ⟨BhP, 1, none⟩ = some (.int .i64 v) := hP.c1
    replace hP2 : w27.cell? ⟨BhP, 2, none⟩ = some (.int .i64 e) := hP.c2
    replace hA0 : w27.cell? ⟨BhA, 0, none⟩ = some (.string dA) := hA.c0
    replace hA1 : w27.cell? ⟨BhA, 1, none⟩ = some (.int .i64 vA) := hA.c1
    replace hA2 : w27.cell? ⟨BhA, 2, none⟩ = some (.int .i64 eA) := hA.c2
    replace kA0 : w27.cell? ⟨BkA, 0, none⟩ = some (.string dA) := kA.c0
    replace kA1 : w27.cell? ⟨BkA, 1, none⟩ = some (.int .i64 vA) := kA.c1
    replace kA2 : w27.cell? ⟨BkA, 2, none⟩ = some (.int .i64 eA) := kA.c2
    replace hB0 : w27.cell? ⟨BhB, 0, none⟩ = some (.string dB) := hB.c0
    replace hB1 : w27.cell? ⟨BhB, 1, none⟩ = some (.int .i64 vB) := hB.c1
    replace hB2 : w27.cell? ⟨BhB, 2, none⟩ = some (.int .i64 eB) := hB.c2
    replace kB0 : w27.cell? ⟨BkB, 0, none⟩ = some (.string dB) := kB.c0
    replace kB1 : w27.cell? ⟨BkB, 1, none⟩ = some (.int .i64 vB) := kB.c1
    replace kB2 : w27.cell? ⟨BkB, 2, none⟩ = some (.int .i64 eB) := kB.c2
    replace hC0 : w27.cell? ⟨BhC, 0, none⟩ = some (.string dC) := hC.c0
    replace hC1 : w27.cell? ⟨BhC, 1, none⟩ = some (.int .i64 vC) := hC.c1
    replace hC2 : w27.cell? ⟨BhC, 2, none⟩ = some (.int .i64 eC) := hC.c2
    replace kC0 : w27.cell? ⟨BkC, 0, none⟩ = some (.string dC) := kC.c0
    replace kC1 : w27.cell? ⟨BkC, 1, none⟩ = some (.int .i64 vC) := kC.c1
    replace kC2 : w27.cell? ⟨BkC, 2, none⟩ = some (.int .i64 eC) := kC.c2
    replace hD0 : w27.cell? ⟨BhD, 0, none⟩ = some (.string dD) := hD.c0
    replace hD1 : w27.cell? ⟨BhD, 1, none⟩ = some (.int .i64 vD) := hD.c1
    replace hD2 : w27.cell? ⟨BhD, 2, none⟩ = some (.int .i64 eD) := hD.c2
    replace kD0 : w27.cell? ⟨BkD, 0, none⟩ = some (.string dD) := kD.c0
    replace kD1 : w27.cell? ⟨BkD, 1, none⟩ = some (.int .i64 vD) := kD.c1
    replace kD2 : w27.cell? ⟨BkD, 2, none⟩ = some (.int .i64 eD) := kD.c2
    refine (awake_any _).mono ?_; rintro e w28 ⟨rfl, hb⟩
    replace HB := Lib.hid (HB.out.trans (hb.mono HB.out.size))
    replace hP := hP.below hb
    replace hA := hA.below hb
    replace kA := kA.below hb
    replace hB := hB.below hb
    replace kB := kB.below hb
    replace hC := hC.below hb
    replace kC := kC.below hb
    replace hD := hD.below hb
    replace kD := kD.below hb
    replace hP0 : w28.cell? ⟨BhP, 0, none⟩ = some (.string d) := hP.c0
    replace hP1 : w28.cell? ⟨BhP, 1, none⟩ = some (.int .i64 v) := hP.c1
    replace hP2 : w28.cell? ⟨BhP, 2, none⟩ = some (.int .i64 e) := hP.c2
    replace hA0 : w28.cell? ⟨BhA, 0, none⟩ = some (.string dA) := hA.c0
    replace hA1 : w28.cell? ⟨BhA, 1, none⟩ = some (.int .i64 vA) := hA.c1
    replace hA2 : w28.cell? ⟨BhA, 2, none⟩ = some (.int .i64 eA) := hA.c2
    replace kA0 : w28.cell? ⟨BkA, 0, none⟩ = some (.string dA) := kA.c0
    replace kA1 : w28.cell? ⟨BkA, 1, none⟩ = some (.int .i64 vA) := kA.c1
    replace kA2 : w28.cell? ⟨BkA, 2, none⟩ = some (.int .i64 eA) := kA.c2
    replace hB0 : w28.cell? ⟨BhB, 0, none⟩ = some (.string dB) := hB.c0
    replace hB1 : w28.cell? ⟨BhB, 1, none⟩ = some (.int .i64 vB) := hB.c1
    replace hB2 : w28.cell? ⟨BhB, 2, none⟩ = some (.int .i64 eB) := hB.c2
    replace kB0 : w28.cell? ⟨BkB, 0, none⟩ = some (.string dB) := kB.c0
    replace kB1 : w28.cell? ⟨BkB, 1, none⟩ = some (.int .i64 vB) := kB.c1
    replace kB2 : w28.cell? ⟨BkB, 2, none⟩ = some (.int .i64 eB) := kB.c2
    replace hC0 : w28.cell? ⟨BhC, 0, none⟩ = some (.string dC) := hC.c0
    replace hC1 : w28.cell? ⟨BhC, 1, none⟩ = some (.int .i64 vC) := hC.c1
    replace hC2 : w28.cell? ⟨BhC, 2, none⟩ = some (.int .i64 eC) := hC.c2
    replace kC0 : w28.cell? ⟨BkC, 0, none⟩ = some (.string dC) := kC.c0
    replace kC1 : w28.cell? ⟨BkC, 1, none⟩ = some (.int .i64 vC) := kC.c1
    replace kC2 : w28.cell? ⟨BkC, 2, none⟩ = some (.int .i64 eC) := kC.c2
    replace hD0 : w28.cell? ⟨BhD, 0, none⟩ = some (.string dD) := hD.c0
    replace hD1 : w28.cell? ⟨BhD, 1, none⟩ = some (.int .i64 vD) := hD.c1
    replace hD2 : w28.cell? ⟨BhD, 2, none⟩ = some (.int .i64 eD) := hD.c2
    replace kD0 : w28.cell? ⟨BkD, 0, none⟩ = some (.string dD) := kD.c0
    replace kD1 : w28.cell? ⟨BkD, 1, none⟩ = some (.int .i64 vD) := kD.c1
    replace kD2 : w28.cell? ⟨BkD, 2, none⟩ = some (.int .i64 eD) := kD.c2
    clear hb
    go_wp2_with fail
    go_ret
    exact RetW.mk rfl HB.out
end Go.Proofs.Ythimcidkmnobnaa
