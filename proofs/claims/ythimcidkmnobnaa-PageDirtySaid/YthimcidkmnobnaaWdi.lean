/- The walk of PageDirty. -/
import Derived.Test.YthimcidkmnobnaaNew2
namespace Go.Proofs.Ythimcidkmnobnaa
open Go.ChangeShapes Go.WideShapes Go.ChangeAt Go.RowKit

set_option maxRecDepth 100000 in
set_option maxHeartbeats 8000000 in
theorem dirty_walk (a : Option Addr) (len cap : Nat) (w : World) (ha : ArgRow w a len) (hl : len ≤ maxLen) :
    Calls Try.prog 6 #[.slice a len cap] w (RetW (.bool true) w) := by
  have HT := Lib.hid (tape_start w a len cap ha hl)
  go_enter Try.func6, Try.ntmps6
  go_wp2_with fail
  have tp0 := HT.out
  clear HT
  have HK : Hid (Tock w.heap.size w (w.alloc (.cells #[.slice a len cap, .int .i64 0] 25))) := Tock.ofBelow ((Below.refl w.heap.size w).alloc (Nat.le_refl _) _) (Nat.le_refl _)
  generalize w.alloc (.cells #[.slice a len cap, .int .i64 0] 25) = w0 at *
  refine (bytes_any 16 _ _ _ _ _ _ (by omega) tp0).mono ?_
  rintro e w1 ⟨disk, hdk, rfl, hk, tpn⟩
  replace HK := Lib.hid (HK.out.trans hk)
  clear hk tp0
  have tp1 := tpn
  clear tpn
  have kf := fun w => fill_any ⟨ZD, 0, 0⟩ 3 disk w (by decide) (by unfold maxLen; omega)
  rw [show fillV ⟨ZD, 0, 0⟩ 3 disk = (⟨disk, 3, 0⟩, 0) from fill_new disk hdk] at kf
  simp only [Pg.val] at kf
  have KF := Lib.hid kf
  have HD := Lib.hid hdk
  clear kf hdk
  go_wp2_with fail
  refine (aw_new _).mono ?_; rintro e w2 ⟨rfl, hb⟩
  replace HK := Lib.hid (HK.out.trans (Tock.ofBelow hb (Nat.le_refl _)))
  have tp2 := tp1.below hb tp1.hi
  clear tp1
  clear hb
  go_wp2_with fail
  refine (KF.out _).mono ?_; rintro e w3 ⟨rfl, hb⟩
  replace HK := Lib.hid (HK.out.trans (Tock.ofBelow hb (Nat.le_refl _)))
  have tp3 := tp2.below hb tp2.hi
  clear tp2
  clear hb
  go_wp2_with fail
  have hP := Hs.new w3 disk 3 0
  have hPt : w3.heap.size ≠ w.heap.size := by have := tp3.hi; omega
  have hPw : w.heap.size ≤ w3.heap.size := HK.out.size
  replace HK := Lib.hid (HK.out.trans (Tock.ofBelow ((Below.refl w3.heap.size w3).alloc (Nat.le_refl _) (.cells #[.string disk, .int .i64 3, .int .i64 0] 27)) (Nat.le_refl _)))
  have tp4 := tp3.below ((Below.refl w3.heap.size w3).alloc (Nat.le_refl _) (.cells #[.string disk, .int .i64 3, .int .i64 0] 27)) tp3.hi
  clear tp3
  generalize w3.alloc (.cells #[.string disk, .int .i64 3, .int .i64 0] 27) = w4 at *
  generalize w3.heap.size = BhP at *
  replace hP0 : w4.cell? ⟨BhP, 0, none⟩ = some (.string disk) := hP.c0
  replace hP1 : w4.cell? ⟨BhP, 1, none⟩ = some (.int .i64 3) := hP.c1
  replace hP2 : w4.cell? ⟨BhP, 2, none⟩ = some (.int .i64 0) := hP.c2
  replace hPf := hP.fz
  refine (next_tp 16 _ _ _ _ _ _ (by omega) (by omega) tp4).mono ?_
  rintro e w5 ⟨off, oa, ob, rfl, hk, tpn⟩
  replace hk := hk.tock
  replace hP := hP.tock hPt hk
  replace HK := Lib.hid (HK.out.trans hk)
  replace hP0 : w5.cell? ⟨BhP, 0, none⟩ = some (.string disk) := hP.c0
  replace hP1 : w5.cell? ⟨BhP, 1, none⟩ = some (.int .i64 3) := hP.c1
  replace hP2 : w5.cell? ⟨BhP, 2, none⟩ = some (.int .i64 0) := hP.c2
  replace hPf := hP.fz
  clear hk tp4
  have tp5 := tpn
  clear tpn
  go_upto_region 5 with (fail)
  go_cut [8, 9] (fun s8 s9 wx => ∃ (g : Nat) (Q : ByteArray) (X : Int), s8 = .pointer (some ⟨g, 0, none⟩) ∧ s9 = .int .i64 0 ∧ Hs wx g ⟨Q, 3, X⟩ ∧ Below w.heap.size w wx ∧ Hid (Q.size = 16) ∧ Hid (cleanV ⟨Q, 3, X⟩ 3 = (⟨Q, 3, 0⟩, 0)) ∧ Hid (∀ i, i < 16 → bat Q i ≠ bat disk i → bits .and .i64 X (if i < 8 then 1 else 2) ≠ 0))
  case first =>
    have tpd := tp5.drew
    have HKd := Lib.hid HK.out.drew
    have tl : w.heap.size < w5.drew.heap.size := tpd.hi
    have pl : BhP < w5.drew.heap.size := hP.lt
    have hPw' := hPt
    have wf1 : IntKind.i64.wrap (16 - off) = 16 - off := IntWalk.i64_in _ (by omega)
    have wf2 : IntKind.i64.wrap (16 - off + 1) = 16 - off + 1 := IntWalk.i64_in _ (by omega)
    have tl5 := tp5.hi
    have pl5 := hP.lt
    go_region_held3 (fun w' => w'.cell? ⟨BhP, 0, none⟩ = some (.string disk) ∧ w'.cell? ⟨BhP, 1, none⟩ = some (.int .i64 3) ∧ w'.cell? ⟨BhP, 2, none⟩ = some (.int .i64 0)) (go_keep) (first | (go_at_call 10; clear wf1 wf2; refine (next_tp _ _ _ _ _ _ _ (by omega) (by omega) (by first | assumption | exact TP.alloc (by assumption) _ | exact (TP.alloc (by assumption) _).drew)).mono ?_; rintro e w' ⟨n, na, nb', rfl, hk, tpn⟩; replace hk := hk.tock; obtain ⟨m, rfl⟩ := Int.eq_ofNat_of_zero_le na; have tl' : w.heap.size < w'.heap.size := Nat.lt_of_lt_of_le (by first | assumption | (simp only [World.size_alloc]; omega) | (simp; omega)) hk.size; have pl' : BhP < w'.heap.size := Nat.lt_of_lt_of_le (by first | assumption | (simp only [World.size_alloc]; omega) | (simp; omega)) hk.size; have k0 := hk.cell (b := BhP) (o := 0) hPw' (by first | assumption | (simp only [World.size_alloc]; omega) | (simp; omega)); have k1 := hk.cell (b := BhP) (o := 1) hPw' (by first | assumption | (simp only [World.size_alloc]; omega) | (simp; omega)); have k2 := hk.cell (b := BhP) (o := 2) hPw' (by first | assumption | (simp only [World.size_alloc]; omega) | (simp; omega)); have HKn : Hid (Tock w.heap.size w w') := Lib.hid (by first | exact Tock.trans (Hid.out (p := Tock w.heap.size w _) (by assumption)) hk | exact Tock.trans (Tock.alloc (Hid.out (p := Tock w.heap.size w _) (by assumption)) _) hk | exact Tock.trans (Tock.alloc (Hid.out (p := Tock w.heap.size w _) (by assumption)) _) hk.undrew); try ((first | (replace nb := nb.tock hk) | (have nb := NewB.tock (NewB.mk' (t := w.heap.size) (B := BhP) (by assumption) (by assumption)) hk) | (have nb := NewB.tock (NewB.mk' (t := w.heap.size) (B := BhP) (by assumption) (by assumption)) hk.undrew)); have g0 := nb.hs.c0; have g1 := nb.hs.c1; have g2 := nb.hs.c2; have gf := nb.hs.fz; have gn := nb.nB; have gn' := nb.nB')) | (go_at_call 23; refine (bytes_any _ _ _ _ _ _ _ (by omega) (by first | assumption | exact TP.alloc (by assumption) _ | exact (TP.alloc (by assumption) _).drew)).mono ?_; rintro e w' ⟨s, hs, rfl, hk, tpn⟩; have HS := Lib.hid hs; clear hs; have tl' : w.heap.size < w'.heap.size := Nat.lt_of_lt_of_le (by first | assumption | (simp only [World.size_alloc]; omega) | (simp; omega)) hk.size; have pl' : BhP < w'.heap.size := Nat.lt_of_lt_of_le (by first | assumption | (simp only [World.size_alloc]; omega) | (simp; omega)) hk.size; have k0 := hk.cell (b := BhP) (o := 0) hPw' (by first | assumption | (simp only [World.size_alloc]; omega) | (simp; omega)); have k1 := hk.cell (b := BhP) (o := 1) hPw' (by first | assumption | (simp only [World.size_alloc]; omega) | (simp; omega)); have k2 := hk.cell (b := BhP) (o := 2) hPw' (by first | assumption | (simp only [World.size_alloc]; omega) | (simp; omega)); have HKn : Hid (Tock w.heap.size w w') := Lib.hid (by first | exact Tock.trans (Hid.out (p := Tock w.heap.size w _) (by assumption)) hk | exact Tock.trans (Tock.alloc (Hid.out (p := Tock w.heap.size w _) (by assumption)) _) hk | exact Tock.trans (Tock.alloc (Hid.out (p := Tock w.heap.size w _) (by assumption)) _) hk.undrew); try ((first | (replace nb := nb.tock hk) | (have nb := NewB.tock (NewB.mk' (t := w.heap.size) (B := BhP) (by assumption) (by assumption)) hk) | (have nb := NewB.tock (NewB.mk' (t := w.heap.size) (B := BhP) (by assumption) (by assumption)) hk.undrew)); have g0 := nb.hs.c0; have g1 := nb.hs.c1; have g2 := nb.hs.c2; have gf := nb.hs.fz; have gn := nb.nB; have gn' := nb.nB')) | (go_at_call 26; obtain ⟨Q, X, hw, hq, hcl, hdf⟩ := dirty_plain disk s off HD.out (by omega) (by have := HS.out; omega); have kw := fun w => write_any ⟨disk, 3, 0⟩ off s w (by have := HD.out; unfold maxLen; simp only; omega) (by have := HS.out; unfold maxLen; omega); rw [hw] at kw; simp only [Pg.val] at kw; refine (kw _).mono ?_; rintro e w' ⟨rfl, hb⟩; have hk := Tock.ofBelow (t := w.heap.size) hb (Nat.le_refl _); have HQ := Lib.hid (And.intro hq (And.intro hcl hdf)); clear hq hcl hdf hw kw hb; have tl' : w.heap.size < w'.heap.size := Nat.lt_of_lt_of_le (by first | assumption | (simp only [World.size_alloc]; omega) | (simp; omega)) hk.size; have pl' : BhP < w'.heap.size := Nat.lt_of_lt_of_le (by first | assumption | (simp only [World.size_alloc]; omega) | (simp; omega)) hk.size; have k0 := hk.cell (b := BhP) (o := 0) hPw' (by first | assumption | (simp only [World.size_alloc]; omega) | (simp; omega)); have k1 := hk.cell (b := BhP) (o := 1) hPw' (by first | assumption | (simp only [World.size_alloc]; omega) | (simp; omega)); have k2 := hk.cell (b := BhP) (o := 2) hPw' (by first | assumption | (simp only [World.size_alloc]; omega) | (simp; omega)); have HKn : Hid (Tock w.heap.size w w') := Lib.hid (by first | exact Tock.trans (Hid.out (p := Tock w.heap.size w _) (by assumption)) hk | exact Tock.trans (Tock.alloc (Hid.out (p := Tock w.heap.size w _) (by assumption)) _) hk | exact Tock.trans (Tock.alloc (Hid.out (p := Tock w.heap.size w _) (by assumption)) _) hk.undrew); try ((first | (replace nb := nb.tock hk) | (have nb := NewB.tock (NewB.mk' (t := w.heap.size) (B := BhP) (by assumption) (by assumption)) hk) | (have nb := NewB.tock (NewB.mk' (t := w.heap.size) (B := BhP) (by assumption) (by assumption)) hk.undrew)); have g0 := nb.hs.c0; have g1 := nb.hs.c1; have g2 := nb.hs.c2; have gf := nb.hs.fz; have gn := nb.nB; have gn' := nb.nB')))
    all_goals
      go_wp2_with fail
      go_meet
      first
      | exact ⟨_, Q, X, rfl, rfl, Hs.new _ _ _ _, (HKn.out.alloc _).base, HQ.out.1, HQ.out.2.1, HQ.out.2.2⟩
      | exact ⟨_, Q, X, rfl, rfl, nb.hs.put _ _ _, (HKn.out.put (Nat.le_of_lt nb.gt) _ _ _).base, HQ.out.1, HQ.out.2.1, HQ.out.2.2⟩
  case rest =>
    clear hP hP0 hP1 hP2 hPf HK KF
    obtain ⟨g, Q, X, rfl, rfl, hQ, hB, HQS, HCL, HDF⟩ := hcut
    have HB := Lib.hid hB
    clear hB
    have hQ0 := hQ.c0; have hQ1 := hQ.c1; have hQ2 := hQ.c2
    have hqs := HQS.out
    have hq1 : ((Q.size : Int) != 16) = false := by simp [hqs]
    have hq2 : ((Q.size : Int) == 16) = true := by simp [hqs]
    have HQL : Hid (Q.size = 16) := hqs
    clear hqs
    go_wp2_with fail
    have HXQ := Lib.hid hQ
    clear hQ hQ0 hQ1 hQ2
    have hsq : 16 ≤ Q.size := by have := HQL.out; omega
    have hsd : 16 ≤ disk.size := by have := HD.out; omega
    clear hq1 hq2 tp5
    go_loopw [10] (fun i wr => ∃ k : Nat, k ≤ 16 ∧ i = .int .i64 k ∧ Hs wr g ⟨Q, 3, X⟩ ∧ Hid (Below w.heap.size w wr)) (fun i _ => 16 - (intOf i).toNat)
    case atStart => exact ⟨0, by omega, rfl, HXQ.out, HB⟩
    case round =>
      clear HB HXQ
      obtain ⟨k, hk, rfl, hQ, HB⟩ := hrel
      have hQ0 := hQ.c0; have hQ1 := hQ.c1; have hQ2 := hQ.c2
      by_cases hlt : k < 16
      · have hk1 : k < Q.size := by omega
        have hk2 : k < disk.size := by omega
        by_cases hne : bat Q k = bat disk k
        · have he : ((Q[k].toNat : Int) != (disk[k].toNat : Int)) = false := by rw [bat_get Q k hk1, bat_get disk k hk2, hne]; simp
          have HNE := Lib.hid hne
          clear hne
          go_wp2_with fail
          go_quiet (fail)
          go_wp2_with fail
          go_roundw
          case rel => exact ⟨k + 1, by omega, by go_num, hQ.below (below_drewN (Below.refl _ _) _), Lib.hid (below_drewN HB.out _)⟩
          case measure => simp [intOf]; omega
        · have he : ((Q[k].toNat : Int) != (disk[k].toNat : Int)) = true := by
            rw [bat_get Q k hk1, bat_get disk k hk2]
            simp only [bne_iff_ne, ne_eq]
            intro h
            exact hne (UInt8.toNat_inj.1 (by omega))
          have hbit := HDF.out k hlt hne
          have HNE := Lib.hid hne
          clear hne
          by_cases h8 : k < 8
          · rw [if_pos h8] at hbit
            have hdiv : (k : Int) / 8 = 0 := by omega
            have hb2 : (bits .and .i64 X 1 == 0) = false := by simpa using hbit
            go_wp2_with fail
            go_quiet (fail)
            go_wp2_with fail
            go_roundw
            case rel => exact ⟨k + 1, by omega, by go_num, hQ.below (below_drewN (Below.refl _ _) _), Lib.hid (below_drewN HB.out _)⟩
            case measure => simp [intOf]; omega
          · rw [if_neg h8] at hbit
            have hdiv : (k : Int) / 8 = 1 := by omega
            have hb2 : (bits .and .i64 X 2 == 0) = false := by simpa using hbit
            go_wp2_with fail
            go_quiet (fail)
            go_wp2_with fail
            go_roundw
            case rel => exact ⟨k + 1, by omega, by go_num, hQ.below (below_drewN (Below.refl _ _) _), Lib.hid (below_drewN HB.out _)⟩
            case measure => simp [intOf]; omega
      · obtain rfl : k = 16 := by omega
        have kc := fun w => clean_any ⟨Q, 3, X⟩ 3 w (by unfold maxLen; have := HQL.out; simp only; omega)
        rw [HCL.out] at kc
        simp only [Pg.val] at kc
        have KC := Lib.hid kc
        clear kc
        go_wp2_with fail
        refine (KC.out _).mono ?_; rintro e w' ⟨rfl, hb⟩
        have hQ' := hQ.below hb
        have hlt := hQ'.lt
        replace hQ0 := hQ'.c0; replace hQ1 := hQ'.c1; replace hQ2 := hQ'.c2
        have HB2 := Lib.hid (HB.out.trans (hb.mono HB.out.size))
        clear hb HB hQ
        go_wp2_with fail
        refine (awake_any _).mono ?_; rintro e w'' ⟨rfl, hb⟩
        go_wp2_with fail
        go_ret
        exact RetW.mk rfl ((HB2.out.alloc HB2.out.size _).trans (hb.mono (Nat.le_trans HB2.out.size (by simp))))
end Go.Proofs.Ythimcidkmnobnaa
