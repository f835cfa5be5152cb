/- The walk of PageReads. -/
import Derived.Test.YthimcidkmnobnaaCom
namespace Go.Proofs.Ythimcidkmnobnaa
open Go.ChangeShapes Go.WideShapes Go.ChangeAt Go.RowKit

theorem rd_newR (w : World) : Calls Try.prog 19 #[] w (RetW (.agg #[.string ZD, .int .i64 0, .int .i64 0]) w) := newR_any w
theorem rd_holeR (w : World) : Calls Try.prog 21 #[] w (RetW (.agg #[.string ZD, .int .i64 3, .int .i64 0]) w) := holeR_any w

set_option maxRecDepth 100000 in
set_option maxHeartbeats 8000000 in
theorem reads_walk (a : Option Addr) (len cap : Nat) (wr : Bool) (w : World) (ha : ArgRow w a len) (hl : len ≤ maxLen) :
    Calls Try.prog 3 #[.slice a len cap, .bool wr] w (RetW (.bool true) w) := by
  have HT := Lib.hid (tape_start w a len cap ha hl)
  go_enter Try.func3, Try.ntmps3
  go_wp2_with fail
  have tp0 := HT.out
  clear HT
  have HK : Hid (Tock w.heap.size w (w.alloc (.cells #[.slice a len cap, .int .i64 0] 25))) := Tock.ofBelow ((Below.refl w.heap.size w).alloc (Nat.le_refl _) _) (Nat.le_refl _)
  generalize w.alloc (.cells #[.slice a len cap, .int .i64 0] 25) = w0 at *
  refine (mkpage_any _ _ _ _ _ _ tp0).mono ?_
  rintro e w1 ⟨p, hp, rfl, hk, tpn⟩
  replace HK := Lib.hid (HK.out.trans hk)
  clear hk tp0
  have tp1 := tpn
  clear tpn
  obtain ⟨d, v, e⟩ := p
  simp only [Pg.val] at hp ⊢
  go_wp2_with fail
  have hP := Has.new w1 d v e
  have hPt : w1.heap.size ≠ w.heap.size := by have := tp1.hi; omega
  replace HK := Lib.hid (HK.out.trans (Tock.ofBelow ((Below.refl w1.heap.size w1).alloc (Nat.le_refl _) (.cells #[.string d, .int .i64 v, .int .i64 e] 27)) (Nat.le_refl _)))
  have tp2 := tp1.below ((Below.refl w1.heap.size w1).alloc (Nat.le_refl _) (.cells #[.string d, .int .i64 v, .int .i64 e] 27)) tp1.hi
  clear tp1
  generalize w1.alloc (.cells #[.string d, .int .i64 v, .int .i64 e] 27) = w2 at *
  generalize w1.heap.size = BhP at *
  replace hP0 : w2.cell? ⟨BhP, 0, none⟩ = some (.string d) := hP.c0
  replace hP1 : w2.cell? ⟨BhP, 1, none⟩ = some (.int .i64 v) := hP.c1
  replace hP2 : w2.cell? ⟨BhP, 2, none⟩ = some (.int .i64 e) := hP.c2
  refine (next_tp 20 _ _ _ _ _ _ (by omega) (by omega) tp2).mono ?_
  rintro e w3 ⟨r1, ra1, rb1, rfl, hk, tpn⟩
  replace hk := hk.tock
  replace hP := hP.tock hPt hk
  replace HK := Lib.hid (HK.out.trans hk)
  replace hP0 : w3.cell? ⟨BhP, 0, none⟩ = some (.string d) := hP.c0
  replace hP1 : w3.cell? ⟨BhP, 1, none⟩ = some (.int .i64 v) := hP.c1
  replace hP2 : w3.cell? ⟨BhP, 2, none⟩ = some (.int .i64 e) := hP.c2
  clear hk tp2
  have tp3 := tpn
  clear tpn
  go_wp2_with fail
  refine (next_tp 20 _ _ _ _ _ _ (by omega) (by omega) tp3).mono ?_
  rintro e w4 ⟨r2, ra2, rb2, rfl, hk, tpn⟩
  replace hk := hk.tock
  replace hP := hP.tock hPt hk
  replace HK := Lib.hid (HK.out.trans hk)
  replace hP0 : w4.cell? ⟨BhP, 0, none⟩ = some (.string d) := hP.c0
  replace hP1 : w4.cell? ⟨BhP, 1, none⟩ = some (.int .i64 v) := hP.c1
  replace hP2 : w4.cell? ⟨BhP, 2, none⟩ = some (.int .i64 e) := hP.c2
  clear hk tp3
  have tp4 := tpn
  clear tpn
  go_wp2_with fail
  refine (next_tp 9 _ _ _ _ _ _ (by omega) (by omega) tp4).mono ?_
  rintro e w5 ⟨r3, ra3, rb3, rfl, hk, tpn⟩
  replace hk := hk.tock
  replace hP := hP.tock hPt hk
  replace HK := Lib.hid (HK.out.trans hk)
  replace hP0 : w5.cell? ⟨BhP, 0, none⟩ = some (.string d) := hP.c0
  replace hP1 : w5.cell? ⟨BhP, 1, none⟩ = some (.int .i64 v) := hP.c1
  replace hP2 : w5.cell? ⟨BhP, 2, none⟩ = some (.int .i64 e) := hP.c2
  clear hk tp4
  have tp5 := tpn
  clear tpn
  go_upto_if 30 with (fail)
  go_cut [7, 8] (fun soff sn wx => ∃ off n : Int, soff = .int .i64 off ∧ -9223372036854775808 ≤ off ∧ off ≤ 9223372036854775807 ∧ sn = .int .i64 n ∧ -9223372036854775808 ≤ n ∧ n ≤ 9223372036854775807 ∧ Has wx BhP ⟨d, v, e⟩ ∧ TP w w.heap.size a len cap wx ∧ Tock w.heap.size w wx)
  case first =>
    by_cases x0 : r3 = 0
    · subst x0
      go_wp2_with fail
      refine (odd_any _ _ _ _ _ _ tp5).mono ?_
      rintro e w7 ⟨r4, ra4, rb4, rfl, hk, tpn⟩
      replace hP := hP.tock hPt hk
      replace HK := Lib.hid (HK.out.trans hk)
      replace hP0 : w7.cell? ⟨BhP, 0, none⟩ = some (.string d) := hP.c0
      replace hP1 : w7.cell? ⟨BhP, 1, none⟩ = some (.int .i64 v) := hP.c1
      replace hP2 : w7.cell? ⟨BhP, 2, none⟩ = some (.int .i64 e) := hP.c2
      clear hk tp5
      have tp7 := tpn
      clear tpn
      go_wp2_with fail
      refine (odd_any _ _ _ _ _ _ tp7).mono ?_
      rintro e w8 ⟨r5, ra5, rb5, rfl, hk, tpn⟩
      replace hP := hP.tock hPt hk
      replace HK := Lib.hid (HK.out.trans hk)
      replace hP0 : w8.cell? ⟨BhP, 0, none⟩ = some (.string d) := hP.c0
      replace hP1 : w8.cell? ⟨BhP, 1, none⟩ = some (.int .i64 v) := hP.c1
      replace hP2 : w8.cell? ⟨BhP, 2, none⟩ = some (.int .i64 e) := hP.c2
      clear hk tp7
      have tp8 := tpn
      clear tpn
      go_wp2_with fail
      go_meet
      exact ⟨_, _, rfl, ra4, rb4, rfl, ra5, rb5, hP, tp8, HK.out⟩
    · have n0 : (r3 == 0) = false := by simpa using x0
      go_wp2_with fail
      go_meet
      exact ⟨_, _, rfl, by omega, by omega, rfl, by omega, by omega, hP, tp5, HK.out⟩
  case rest =>
    clear hP hP0 hP1 hP2 HK tp5
    obtain ⟨off, n, rfl, offl, offh, rfl, nl, nh, hP, tp6, hk⟩ := hcut
    have HK := Lib.hid hk
    clear hk
    replace hP0 : wc.cell? ⟨BhP, 0, none⟩ = some (.string d) := hP.c0
    replace hP1 : wc.cell? ⟨BhP, 1, none⟩ = some (.int .i64 v) := hP.c1
    replace hP2 : wc.cell? ⟨BhP, 2, none⟩ = some (.int .i64 e) := hP.c2
    have HB := Lib.hid tp6.bel
    clear tp6
    have hd : d.size ≤ maxLen := by unfold maxLen; omega
    clear HK
    have pA := fun w => needs_any ⟨d, v, e⟩ off n wr w hd
    have qA := fun w => needsR_any ⟨d, v, e⟩ off n wr w hd offl offh
    generalize needV ⟨d, v, e⟩ off n wr = xA at pA qA
    obtain ⟨yA, zA⟩ := xA
    simp only [Pg.val] at pA qA
    have PA := Lib.hid pA
    have QA := Lib.hid qA
    clear pA qA
    have pB := fun w => read_any ⟨d, v, e⟩ off n w hd
    have qB := fun w => readR_any ⟨d, v, e⟩ off n w hd offl offh
    generalize readV ⟨d, v, e⟩ off n = xB at pB qB
    obtain ⟨yB, zB⟩ := xB
    simp only [Pg.val] at pB qB
    have PB := Lib.hid pB
    have QB := Lib.hid qB
    clear pB qB
    have pC := fun w => check_any ⟨d, v, e⟩ w hd
    have qC := fun w => checkR_any ⟨d, v, e⟩ w hd
    generalize chk ⟨d, v, e⟩ = xC at pC qC
    simp only [Pg.val] at pC qC
    have PC := Lib.hid pC
    have QC := Lib.hid qC
    clear pC qC
    clear hd hp offl offh nl nh ra1 rb1 ra2 rb2 ra3 rb3 hPt
    go_wp2_with fail
    refine (PA.out _).mono ?_; rintro e w7 ⟨rfl, hb⟩
    replace HB := Lib.hid (HB.out.trans (hb.mono HB.out.size))
    replace hP := hP.below hb
    replace hP0 : w7.cell? ⟨BhP, 0, none⟩ = some (.string d) := hP.c0
    replace hP1 : w7.cell? ⟨BhP, 1, none⟩ = some (.int .i64 v) := hP.c1
    replace hP2 : w7.cell? ⟨BhP, 2, none⟩ = some (.int .i64 e) := hP.c2
    clear hb
    go_wp2_with fail
    refine (QA.out _).mono ?_; rintro e w8 ⟨rfl, hb⟩
    replace HB := Lib.hid (HB.out.trans (hb.mono HB.out.size))
    replace hP := hP.below hb
    replace hP0 : w8.cell? ⟨BhP, 0, none⟩ = some (.string d) := hP.c0
    replace hP1 : w8.cell? ⟨BhP, 1, none⟩ = some (.int .i64 v) := hP.c1
    replace hP2 : w8.cell? ⟨BhP, 2, none⟩ = some (.int .i64 e) := hP.c2
    clear hb
    go_wp2_with fail
    refine (PB.out _).mono ?_; rintro e w9 ⟨rfl, hb⟩
    replace HB := Lib.hid (HB.out.trans (hb.mono HB.out.size))
    replace hP := hP.below hb
    replace hP0 : w9.cell? ⟨BhP, 0, none⟩ = some (.string d) := hP.c0
    replace hP1 : w9.cell? ⟨BhP, 1, none⟩ = some (.int .i64 v) := hP.c1
    replace hP2 : w9.cell? ⟨BhP, 2, none⟩ = some (.int .i64 e) := hP.c2
    clear hb
    go_wp2_with fail
    refine (QB.out _).mono ?_; rintro e w10 ⟨rfl, hb⟩
    replace HB := Lib.hid (HB.out.trans (hb.mono HB.out.size))
    replace hP := hP.below hb
    replace hP0 : w10.cell? ⟨BhP, 0, none⟩ = some (.string d) := hP.c0
    replace hP1 : w10.cell? ⟨BhP, 1, none⟩ = some (.int .i64 v) := hP.c1
    replace hP2 : w10.cell? ⟨BhP, 2, none⟩ = some (.int .i64 e) := hP.c2
    clear hb
    go_wp2_with fail
    have hlt := hP.lt
    have HBd : Hid (Below w.heap.size w w10.drew) := Lib.hid HB.out.drew
    have hltd : BhP < w10.drew.heap.size := hlt
    go_region_held3 (fun w' => w'.cell? ⟨BhP, 0, none⟩ = some (.string d) ∧ w'.cell? ⟨BhP, 1, none⟩ = some (.int .i64 v) ∧ w'.cell? ⟨BhP, 2, none⟩ = some (.int .i64 e)) (go_keep) (first | (go_at_call 16; refine (PC.out _).mono ?_; rintro e w' ⟨rfl, hb⟩; have hlt2 : BhP < w'.heap.size := Nat.lt_of_lt_of_le (by assumption) hb.size; have k0 := hb.cell (p := ⟨BhP, 0, none⟩) (by assumption); have k1 := hb.cell (p := ⟨BhP, 1, none⟩) (by assumption); have k2 := hb.cell (p := ⟨BhP, 2, none⟩) (by assumption); have HBn : Hid (Below w.heap.size w w') := Lib.hid ((Hid.out (p := Below w.heap.size w _) (by assumption)).trans (hb.mono (Hid.out (p := Below w.heap.size w _) (by assumption)).size))) | (go_at_call 17; refine (QC.out _).mono ?_; rintro e w' ⟨rfl, hb⟩; have hlt2 : BhP < w'.heap.size := Nat.lt_of_lt_of_le (by assumption) hb.size; have k0 := hb.cell (p := ⟨BhP, 0, none⟩) (by assumption); have k1 := hb.cell (p := ⟨BhP, 1, none⟩) (by assumption); have k2 := hb.cell (p := ⟨BhP, 2, none⟩) (by assumption); have HBn : Hid (Below w.heap.size w w') := Lib.hid ((Hid.out (p := Below w.heap.size w _) (by assumption)).trans (hb.mono (Hid.out (p := Below w.heap.size w _) (by assumption)).size))) | (go_at_call 18; refine (aw_new _).mono ?_; rintro e w' ⟨rfl, hb⟩; have hlt2 : BhP < w'.heap.size := Nat.lt_of_lt_of_le (by assumption) hb.size; have k0 := hb.cell (p := ⟨BhP, 0, none⟩) (by assumption); have k1 := hb.cell (p := ⟨BhP, 1, none⟩) (by assumption); have k2 := hb.cell (p := ⟨BhP, 2, none⟩) (by assumption); have HBn : Hid (Below w.heap.size w w') := Lib.hid ((Hid.out (p := Below w.heap.size w _) (by assumption)).trans (hb.mono (Hid.out (p := Below w.heap.size w _) (by assumption)).size))) | (go_at_call 19; refine (rd_newR _).mono ?_; rintro e w' ⟨rfl, hb⟩; have hlt2 : BhP < w'.heap.size := Nat.lt_of_lt_of_le (by assumption) hb.size; have k0 := hb.cell (p := ⟨BhP, 0, none⟩) (by assumption); have k1 := hb.cell (p := ⟨BhP, 1, none⟩) (by assumption); have k2 := hb.cell (p := ⟨BhP, 2, none⟩) (by assumption); have HBn : Hid (Below w.heap.size w w') := Lib.hid ((Hid.out (p := Below w.heap.size w _) (by assumption)).trans (hb.mono (Hid.out (p := Below w.heap.size w _) (by assumption)).size))) | (go_at_call 20; refine (aw_hole _).mono ?_; rintro e w' ⟨rfl, hb⟩; have hlt2 : BhP < w'.heap.size := Nat.lt_of_lt_of_le (by assumption) hb.size; have k0 := hb.cell (p := ⟨BhP, 0, none⟩) (by assumption); have k1 := hb.cell (p := ⟨BhP, 1, none⟩) (by assumption); have k2 := hb.cell (p := ⟨BhP, 2, none⟩) (by assumption); have HBn : Hid (Below w.heap.size w w') := Lib.hid ((Hid.out (p := Below w.heap.size w _) (by assumption)).trans (hb.mono (Hid.out (p := Below w.heap.size w _) (by assumption)).size))) | (go_at_call 21; refine (rd_holeR _).mono ?_; rintro e w' ⟨rfl, hb⟩; have hlt2 : BhP < w'.heap.size := Nat.lt_of_lt_of_le (by assumption) hb.size; have k0 := hb.cell (p := ⟨BhP, 0, none⟩) (by assumption); have k1 := hb.cell (p := ⟨BhP, 1, none⟩) (by assumption); have k2 := hb.cell (p := ⟨BhP, 2, none⟩) (by assumption); have HBn : Hid (Below w.heap.size w w') := Lib.hid ((Hid.out (p := Below w.heap.size w _) (by assumption)).trans (hb.mono (Hid.out (p := Below w.heap.size w _) (by assumption)).size))) | (go_at_call 22; refine (awake_any _).mono ?_; rintro e w' ⟨rfl, hb⟩; have hlt2 : BhP < w'.heap.size := Nat.lt_of_lt_of_le (by assumption) hb.size; have k0 := hb.cell (p := ⟨BhP, 0, none⟩) (by assumption); have k1 := hb.cell (p := ⟨BhP, 1, none⟩) (by assumption); have k2 := hb.cell (p := ⟨BhP, 2, none⟩) (by assumption); have HBn : Hid (Below w.heap.size w w') := Lib.hid ((Hid.out (p := Below w.heap.size w _) (by assumption)).trans (hb.mono (Hid.out (p := Below w.heap.size w _) (by assumption)).size))))
    all_goals (go_wp2_with fail; go_ret; exact RetW.mk rfl HBn.out)
end Go.Proofs.Ythimcidkmnobnaa
