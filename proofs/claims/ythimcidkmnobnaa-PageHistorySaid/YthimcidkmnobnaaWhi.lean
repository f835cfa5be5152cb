/- The walk of PageHistory. -/
import Derived.Test.YthimcidkmnobnaaRow
namespace Go.Proofs.Ythimcidkmnobnaa
open Go.ChangeShapes Go.WideShapes Go.ChangeAt Go.RowKit

set_option maxRecDepth 100000 in
set_option maxHeartbeats 16000000 in
theorem history_walk (a : Option Addr) (len cap : Nat) (w : World) (ha : ArgRow w a len) (hl : len ≤ maxLen) :
    Calls Try.prog 5 #[.slice a len cap] w (RetW (.bool true) w) := by
  have HT := Lib.hid (tape_start w a len cap ha hl)
  go_enter Try.func5, Try.ntmps5
  go_wp2_with fail
  have tp0 := HT.out
  clear HT
  have HK : Hid (Tock w.heap.size w (w.alloc (.cells #[.slice a len cap, .int .i64 0] 25))) := Tock.ofBelow ((Below.refl w.heap.size w).alloc (Nat.le_refl _) _) (Nat.le_refl _)
  generalize w.alloc (.cells #[.slice a len cap, .int .i64 0] 25) = w0 at *
  refine (bytes_any 16 _ _ _ _ _ _ (by omega) tp0).mono ?_
  rintro e w1 ⟨disk, hdk, rfl, hk, tpn⟩
  replace HK := Lib.hid (HK.out.trans hk)
  clear hk tp0
  have tp1 := tpn
  clear tpn
  have HD := Lib.hid hdk
  have hconv : ∀ (w : World), (convert 9 45 (.string disk)).run Try.prog w = .ok (.slice (some ⟨w.heap.size, 0, none⟩) 16 (grownCap w 16 0 5)) (w.drew.alloc (.cells (bytesRow disk (grownCap w 16 0 5)) 5 ((bytesRow disk (grownCap w 16 0 5)).size, (bytesRow disk (grownCap w 16 0 5)).size + 1))) := by
    intro w
    have := run_bytes_of_string (P := Try.prog) w 9 45 5 disk Try.underlying9 Try.underlying45 Try.underlying5
    rw [hdk] at this
    exact this
  have hrow : ∀ C, 16 ≤ (bytesRow disk C).size := by
    intro C
    have : disk.data.size = 16 := hdk
    simp [bytesRow, this]
  have HROW := Lib.hid hrow
  clear hrow hdk
  go_wp2_with fail
  have hge := grownCap_ge w1 16 0 5
  have hle := grownCap_le_maxLen w1 16 0 5 (by unfold maxLen; omega)
  have hR := (Rw.start (w := w1) HD.out (grownCap w1 16 0 5) (bytesRow disk (grownCap w1 16 0 5)).size ((bytesRow disk (grownCap w1 16 0 5)).size + 1) (HROW.out _)).drew
  have tpR := (tp1.alloc (.cells (bytesRow disk (grownCap w1 16 0 5)) 5 ((bytesRow disk (grownCap w1 16 0 5)).size, (bytesRow disk (grownCap w1 16 0 5)).size + 1))).drew
  have hRt : w1.heap.size ≠ w.heap.size := by have := tp1.hi; omega
  have hRw : w.heap.size ≤ w1.heap.size := HK.out.size
  replace HK := Lib.hid (HK.out.alloc (.cells (bytesRow disk (grownCap w1 16 0 5)) 5 ((bytesRow disk (grownCap w1 16 0 5)).size, (bytesRow disk (grownCap w1 16 0 5)).size + 1))).drew
  clear hconv tp1 HROW
  generalize (w1.alloc (.cells (bytesRow disk (grownCap w1 16 0 5)) 5 ((bytesRow disk (grownCap w1 16 0 5)).size, (bytesRow disk (grownCap w1 16 0 5)).size + 1))).drew = wR at *
  generalize grownCap w1 16 0 5 = C at *
  generalize w1.heap.size = BhR at *
  unfold maxLen at hle
  have HC := Lib.hid (And.intro hge hle)
  clear hge hle
  refine (aw_new _).mono ?_; rintro e w2 ⟨rfl, hb⟩
  replace HK := Lib.hid (HK.out.trans (Tock.ofBelow hb (Nat.le_refl _)))
  replace hR := hR.below hb
  have tp2 := tpR.below hb tpR.hi
  clear tpR
  clear hb
  go_wp2_with fail
  have hP := Hs.new w2 ZD 0 0
  have hRhP : w2.heap.size ≠ BhR := by have := hR.lt; omega
  have hPhR : BhR ≠ w2.heap.size := by have := hR.lt; omega
  replace hR := hR.alloc (.cells #[.string ZD, .int .i64 0, .int .i64 0] 27)
  have hPt : w2.heap.size ≠ w.heap.size := by have := tp2.hi; omega
  have hPw : w.heap.size ≤ w2.heap.size := HK.out.size
  replace HK := Lib.hid (HK.out.trans (Tock.ofBelow ((Below.refl w2.heap.size w2).alloc (Nat.le_refl _) (.cells #[.string ZD, .int .i64 0, .int .i64 0] 27)) (Nat.le_refl _)))
  have tp3 := tp2.below ((Below.refl w2.heap.size w2).alloc (Nat.le_refl _) (.cells #[.string ZD, .int .i64 0, .int .i64 0] 27)) tp2.hi
  clear tp2
  generalize w2.alloc (.cells #[.string ZD, .int .i64 0, .int .i64 0] 27) = w3 at *
  generalize w2.heap.size = BhP at *
  replace hP0 : w3.cell? ⟨BhP, 0, none⟩ = some (.string ZD) := hP.c0
  replace hP1 : w3.cell? ⟨BhP, 1, none⟩ = some (.int .i64 0) := hP.c1
  replace hP2 : w3.cell? ⟨BhP, 2, none⟩ = some (.int .i64 0) := hP.c2
  replace hPf := hP.fz
  refine (next_tp 8 _ _ _ _ _ _ (by omega) (by omega) tp3).mono ?_
  rintro e w4 ⟨r0, ra, rb, rfl, hk, tpn⟩
  replace hk := hk.tock
  replace hR := hR.tock hRt hk
  replace hP := hP.tock hPt hk
  replace HK := Lib.hid (HK.out.trans hk)
  replace hP0 : w4.cell? ⟨BhP, 0, none⟩ = some (.string ZD) := hP.c0
  replace hP1 : w4.cell? ⟨BhP, 1, none⟩ = some (.int .i64 0) := hP.c1
  replace hP2 : w4.cell? ⟨BhP, 2, none⟩ = some (.int .i64 0) := hP.c2
  replace hPf := hP.fz
  clear hk tp3
  have tp4 := tpn
  clear tpn
  obtain ⟨k0, rfl⟩ := Int.eq_ofNat_of_zero_le ra
  have HO : Hid (Over disk ⟨ZD, 0, 0⟩ (bat disk)) := Over.new disk
  go_wp2_with fail
  have HPP := Lib.hid hP; have HRR := Lib.hid hR
  clear hP hP0 hP1 hP2 hPf hR
  go_loopw [7] (fun s7 wr => ∃ (k : Nat) (f : Nat → UInt8) (p : Pg), s7 = .int .i64 k ∧ k ≤ 7 ∧ Hs wr BhP p ∧ Hid (Over disk p f) ∧ Rw wr BhR f ∧ TP w w.heap.size a len cap wr ∧ Hid (Tock w.heap.size w wr)) (fun s7 _ => (intOf s7).toNat)
  case atStart => exact ⟨k0, _, _, rfl, by omega, HPP.out, HO, HRR.out, tp4, HK⟩
  case round =>
    clear HPP HRR HO tp4 HK ra rb
    obtain ⟨k, f, ⟨d, v, e⟩, rfl, hk, hP, HO, hR, tpx, HK⟩ := hrel
    have hP0 : wr.cell? ⟨BhP, 0, none⟩ = some (.string d) := hP.c0
    have hP1 : wr.cell? ⟨BhP, 1, none⟩ = some (.int .i64 v) := hP.c1
    have hP2 : wr.cell? ⟨BhP, 2, none⟩ = some (.int .i64 e) := hP.c2
    have hPf := hP.fz
    have hdm : Hid (d.size ≤ maxLen) := by have := HO.out.size; unfold Hid maxLen; simp only at this; omega
    by_cases hk0 : k = 0
    · subst hk0
      obtain ⟨⟨qd, qv, qe⟩, hq, hqs, hrd⟩ := HO.out.last HD.out
      have kf := fun w => fill_any ⟨d, v, e⟩ 3 disk w hdm.out (by have := HD.out; unfold maxLen; omega)
      have kr := fun w => read_any ⟨qd, qv, qe⟩ 0 16 w (by unfold maxLen; simp only at hqs ⊢; omega)
      rw [hq] at kf
      rw [hrd] at kr
      simp only [Pg.val] at kf kr
      have KF := Lib.hid kf; have KR := Lib.hid kr
      clear kf kr hq hqs hrd
      go_wp2_with fail
      refine (KF.out _).mono ?_; rintro e w5 ⟨rfl, hb⟩
      replace HK := Lib.hid (HK.out.trans (Tock.ofBelow hb (Nat.le_refl _)))
      replace hR := hR.below hb
      replace hP := hP.below hb
      have tp5 := tpx.below hb tpx.hi
      clear tpx
      replace hP0 : w5.cell? ⟨BhP, 0, none⟩ = some (.string d) := hP.c0
      replace hP1 : w5.cell? ⟨BhP, 1, none⟩ = some (.int .i64 v) := hP.c1
      replace hP2 : w5.cell? ⟨BhP, 2, none⟩ = some (.int .i64 e) := hP.c2
      replace hPf := hP.fz
      clear hb
      have hRlt := hR.lt
      have hPlt := hP.lt
      go_wp2_with fail
      clear hRlt hPlt
      clear hP0 hP1 hP2 hPf
      replace hP := hP.put qd qv qe
      replace hR := hR.other (show BhR ≠ BhP from by assumption) qd qv qe
      replace HK := Lib.hid (HK.out.put hPw qd qv qe)
      have tp6 := tp5.put3 hPt hPw qd qv qe
      clear tp5
      have hW : Hid (((w5.setCell ⟨BhP, 0, none⟩ (.string qd)).setCell ⟨BhP, 1, none⟩ (.int .i64 qv)).setCell ⟨BhP, 2, none⟩ (.int .i64 qe) = put3 w5 BhP qd qv qe) := rfl
      rw [hW.out]; clear hW
      generalize put3 w5 BhP qd qv qe = w6 at *
      replace hP0 : w6.cell? ⟨BhP, 0, none⟩ = some (.string qd) := hP.c0
      replace hP1 : w6.cell? ⟨BhP, 1, none⟩ = some (.int .i64 qv) := hP.c1
      replace hP2 : w6.cell? ⟨BhP, 2, none⟩ = some (.int .i64 qe) := hP.c2
      replace hPf := hP.fz
      refine (KR.out _).mono ?_; rintro e w7 ⟨rfl, hb⟩
      replace HK := Lib.hid (HK.out.trans (Tock.ofBelow hb (Nat.le_refl _)))
      replace hR := hR.below hb
      replace hP := hP.below hb
      have tp7 := tp6.below hb tp6.hi
      clear tp6
      replace hP0 : w7.cell? ⟨BhP, 0, none⟩ = some (.string qd) := hP.c0
      replace hP1 : w7.cell? ⟨BhP, 1, none⟩ = some (.int .i64 qv) := hP.c1
      replace hP2 : w7.cell? ⟨BhP, 2, none⟩ = some (.int .i64 qe) := hP.c2
      replace hPf := hP.fz
      clear hb
      have hcv := hR.conv C
      go_wp2_with fail
      refine (awake_any _).mono ?_; rintro e w' ⟨rfl, hb⟩
      go_wp2_with fail
      go_ret
      exact RetW.mk rfl (HK.out.base.trans (hb.mono HK.out.size))
    · have hkp : (0 : Int) < (k : Int) := by omega
      go_wp2_with fail
      refine (next_tp 3 _ _ _ _ _ _ (by omega) (by omega) tpx).mono ?_
      rintro e w5 ⟨x, xa, xb, rfl, hk, tpn⟩
      replace hk := hk.tock
      replace hR := hR.tock hRt hk
      replace hP := hP.tock hPt hk
      replace HK := Lib.hid (HK.out.trans hk)
      replace hP0 : w5.cell? ⟨BhP, 0, none⟩ = some (.string d) := hP.c0
      replace hP1 : w5.cell? ⟨BhP, 1, none⟩ = some (.int .i64 v) := hP.c1
      replace hP2 : w5.cell? ⟨BhP, 2, none⟩ = some (.int .i64 e) := hP.c2
      replace hPf := hP.fz
      clear hk tpx
      have tp5 := tpn
      clear tpn
      by_cases x0 : x = 0
      · subst x0
        go_wp2_with fail
        have tpd := tp5.drew
        have hPd := hP.drew
        have hRd := hR.drew
        have HKd := Lib.hid HK.out.drew
        have tl : w.heap.size < w5.drew.heap.size := tpd.hi
        have pl : BhP < w5.drew.heap.size := hP.lt
        have rl : BhR < w5.drew.heap.size := hR.lt
        have tl5 := tp5.hi
        have pl5 := hP.lt
        have rl5 := hR.lt
        go_region_held3 (fun w' => w'.cell? ⟨BhP, 0, none⟩ = some (.string d) ∧ w'.cell? ⟨BhP, 1, none⟩ = some (.int .i64 v) ∧ w'.cell? ⟨BhP, 2, none⟩ = some (.int .i64 e)) (go_keep) (first | (go_at_call 10; refine (next_tp 4 _ _ _ _ _ _ (by omega) (by omega) (by first | assumption | exact TP.alloc (by assumption) _ | exact (TP.alloc (by assumption) _).drew)).mono ?_; rintro e w_b ⟨kk, ka, kb, rfl, hk, tpn⟩; replace hk := hk.tock; obtain ⟨s0, s1, rfl⟩ := sb_of ka (by omega); have tl' : w.heap.size < w_b.heap.size := Nat.lt_of_lt_of_le (by first | assumption | (simp only [World.size_alloc]; omega) | (simp; omega)) hk.size; have pl' : BhP < w_b.heap.size := Nat.lt_of_lt_of_le (by first | assumption | (simp only [World.size_alloc]; omega) | (simp; omega)) hk.size; have rl' : BhR < w_b.heap.size := Nat.lt_of_lt_of_le (by first | assumption | (simp only [World.size_alloc]; omega) | (simp; omega)) hk.size; have k0 := hk.cell (b := BhP) (o := 0) hPt (by first | assumption | (simp only [World.size_alloc]; omega) | (simp; omega)); have k1 := hk.cell (b := BhP) (o := 1) hPt (by first | assumption | (simp only [World.size_alloc]; omega) | (simp; omega)); have k2 := hk.cell (b := BhP) (o := 2) hPt (by first | assumption | (simp only [World.size_alloc]; omega) | (simp; omega)); have HKn : Hid (Tock w.heap.size w w_b) := Lib.hid (by first | exact Tock.trans (Hid.out (p := Tock w.heap.size w _) (by assumption)) hk | exact Tock.trans (Tock.alloc (Hid.out (p := Tock w.heap.size w _) (by assumption)) _) hk | exact Tock.trans (Tock.alloc (Hid.out (p := Tock w.heap.size w _) (by assumption)) _) hk.undrew); have hPn : Hs w_b BhP ⟨d, v, e⟩ := Hs.tock (by first | assumption | exact Hs.alloc (by assumption) _ | exact (Hs.alloc (by assumption) _).drew) hPt hk; have hRn : Rw w_b BhR f := Rw.tock (by first | assumption | exact Rw.alloc (by assumption) _ | exact (Rw.alloc (by assumption) _).drew) hRt hk; (try ((first | (replace nb := nb.tock hk) | (have nb := NewB.tock (NewB.mk' (t := w.heap.size) (B := BhP) (by assumption) (by assumption)) hk) | (have nb := NewB.tock (NewB.mk' (t := w.heap.size) (B := BhP) (by assumption) (by assumption)) hk.undrew)); (first | (replace nr := nr.tock hk) | (have nr := NewB.tock (NewB.mk' (t := w.heap.size) (B := BhR) (by assumption) (by assumption)) hk) | (have nr := NewB.tock (NewB.mk' (t := w.heap.size) (B := BhR) (by assumption) (by assumption)) hk.undrew)); have g0 := nb.hs.c0; have g1 := nb.hs.c1; have g2 := nb.hs.c2; have gf := nb.hs.fz; have gn := nb.nB; have gn' := nb.nB'))) | (go_at_call 24; obtain ⟨⟨Fd, Fv, Fe⟩, hw, hov⟩ := HO.out.fill HD.out s0 s1; have kw := fun w => fill_any ⟨d, v, e⟩ (sb s0 s1) disk w hdm.out (by have := HD.out; unfold maxLen; omega); rw [hw] at kw; simp only [Pg.val] at kw; refine (kw _).mono ?_; rintro e w_f ⟨rfl, hb⟩; have hk := Tock.ofBelow (t := w.heap.size) hb (Nat.le_refl _); have HOV := Lib.hid hov; have tpn2 := TP.belowW (w0 := w) (t := w.heap.size) (a := a) (len := len) (cap := cap) (by first | assumption | exact TP.alloc (by assumption) _ | exact (TP.alloc (by assumption) _).drew) hb; clear hov hw kw; have tl' : w.heap.size < w_f.heap.size := Nat.lt_of_lt_of_le (by first | assumption | (simp only [World.size_alloc]; omega) | (simp; omega)) hk.size; have pl' : BhP < w_f.heap.size := Nat.lt_of_lt_of_le (by first | assumption | (simp only [World.size_alloc]; omega) | (simp; omega)) hk.size; have rl' : BhR < w_f.heap.size := Nat.lt_of_lt_of_le (by first | assumption | (simp only [World.size_alloc]; omega) | (simp; omega)) hk.size; have k0 := hk.cell (b := BhP) (o := 0) hPt (by first | assumption | (simp only [World.size_alloc]; omega) | (simp; omega)); have k1 := hk.cell (b := BhP) (o := 1) hPt (by first | assumption | (simp only [World.size_alloc]; omega) | (simp; omega)); have k2 := hk.cell (b := BhP) (o := 2) hPt (by first | assumption | (simp only [World.size_alloc]; omega) | (simp; omega)); have HKn : Hid (Tock w.heap.size w w_f) := Lib.hid (by first | exact Tock.trans (Hid.out (p := Tock w.heap.size w _) (by assumption)) hk | exact Tock.trans (Tock.alloc (Hid.out (p := Tock w.heap.size w _) (by assumption)) _) hk | exact Tock.trans (Tock.alloc (Hid.out (p := Tock w.heap.size w _) (by assumption)) _) hk.undrew); have hPn : Hs w_f BhP ⟨d, v, e⟩ := Hs.tock (by first | assumption | exact Hs.alloc (by assumption) _ | exact (Hs.alloc (by assumption) _).drew) hPt hk; have hRn : Rw w_f BhR f := Rw.tock (by first | assumption | exact Rw.alloc (by assumption) _ | exact (Rw.alloc (by assumption) _).drew) hRt hk; (try ((first | (replace nb := nb.tock hk) | (have nb := NewB.tock (NewB.mk' (t := w.heap.size) (B := BhP) (by assumption) (by assumption)) hk) | (have nb := NewB.tock (NewB.mk' (t := w.heap.size) (B := BhP) (by assumption) (by assumption)) hk.undrew)); (first | (replace nr := nr.tock hk) | (have nr := NewB.tock (NewB.mk' (t := w.heap.size) (B := BhR) (by assumption) (by assumption)) hk) | (have nr := NewB.tock (NewB.mk' (t := w.heap.size) (B := BhR) (by assumption) (by assumption)) hk.undrew)); have g0 := nb.hs.c0; have g1 := nb.hs.c1; have g2 := nb.hs.c2; have gf := nb.hs.fz; have gn := nb.nB; have gn' := nb.nB'))))
        all_goals
          first
          | (refine alloc_genR hPn hRn tpn2 HKn.out Fd Fv Fe (fun W hG hPq hRq tpq HKq u1 u2 u3 => ?_)
             clear HKn hPn tpn2 tpn hPd tpd hRn hRd
             generalize w_f.heap.size = g at hG u1 u2 u3 ⊢)
          | (have nb1 : NewB w.heap.size BhP w_f w_b.heap.size := nb
             have nr1 : NewB w.heap.size BhR w_f w_b.heap.size := nr
             refine put_genR nb1 nr1 hPn hRn tpn2 HKn.out (Nat.le_of_lt nb1.gt) Fd Fv Fe (fun W hG hPq hRq tpq HKq u1 u2 u3 => ?_)
             clear HKn hPn tpn2 tpn hPd tpd hRn hRd nb1 nb nr nr1
             generalize w_b.heap.size = g at hG u1 u2 u3 ⊢)
          | (have nb1 : NewB w.heap.size BhP w_f w5.heap.size := nb
             have nr1 : NewB w.heap.size BhR w_f w5.heap.size := nr
             refine put_genR nb1 nr1 hPn hRn tpn2 HKn.out (Nat.le_of_lt nb1.gt) Fd Fv Fe (fun W hG hPq hRq tpq HKq u1 u2 u3 => ?_)
             clear HKn hPn tpn2 tpn hPd tpd hRn hRd nb1 nb nr nr1
             generalize w5.heap.size = g at hG u1 u2 u3 ⊢)
          have e0 := hG.c0; have e1 := hG.c1; have e2 := hG.c2; have ef := hG.fz
          have p0 := hPq.c0; have p1 := hPq.c1; have p2 := hPq.c2; have pf := hPq.fz
          go_wp2_with fail
          go_roundw
          case rel => exact ⟨k - 1, f, ⟨Fd, Fv, Fe⟩, by congr 1; omega, by omega, hPq.put Fd Fv Fe, HOV, hRq.other hPhR Fd Fv Fe, tpq.put3 hPt hPw Fd Fv Fe, Lib.hid (HKq.out.put hPw Fd Fv Fe)⟩
          case measure => simp [intOf]; omega
      · have n0 : (x == 0) = false := by simpa using x0
        go_wp2_with fail
        refine (next_tp 16 _ _ _ _ _ _ (by omega) (by omega) tp5).mono ?_
        rintro e w6 ⟨oo, oa, ob, rfl, hk, tpn⟩
        replace hk := hk.tock
        replace hR := hR.tock hRt hk
        replace hP := hP.tock hPt hk
        replace HK := Lib.hid (HK.out.trans hk)
        replace hP0 : w6.cell? ⟨BhP, 0, none⟩ = some (.string d) := hP.c0
        replace hP1 : w6.cell? ⟨BhP, 1, none⟩ = some (.int .i64 v) := hP.c1
        replace hP2 : w6.cell? ⟨BhP, 2, none⟩ = some (.int .i64 e) := hP.c2
        replace hPf := hP.fz
        clear hk tp5
        have tp6 := tpn
        clear tpn
        obtain ⟨o, rfl⟩ := Int.eq_ofNat_of_zero_le oa
        go_wp2_with fail
        refine (next_tp (16 - (o : Int) + 1) _ _ _ _ _ _ (by omega) (by omega) tp6).mono ?_
        rintro e w7 ⟨nn, na, nb, rfl, hk, tpn⟩
        replace hk := hk.tock
        replace hR := hR.tock hRt hk
        replace hP := hP.tock hPt hk
        replace HK := Lib.hid (HK.out.trans hk)
        replace hP0 : w7.cell? ⟨BhP, 0, none⟩ = some (.string d) := hP.c0
        replace hP1 : w7.cell? ⟨BhP, 1, none⟩ = some (.int .i64 v) := hP.c1
        replace hP2 : w7.cell? ⟨BhP, 2, none⟩ = some (.int .i64 e) := hP.c2
        replace hPf := hP.fz
        clear hk tp6
        have tp7 := tpn
        clear tpn
        obtain ⟨m, rfl⟩ := Int.eq_ofNat_of_zero_le na
        go_wp2_with fail
        refine (bytes_any m _ _ _ _ _ _ (by omega) tp7).mono ?_
        rintro e w8 ⟨s, hs, rfl, hk, tpn⟩
        replace hR := hR.tock hRt hk
        replace hP := hP.tock hPt hk
        replace HK := Lib.hid (HK.out.trans hk)
        replace hP0 : w8.cell? ⟨BhP, 0, none⟩ = some (.string d) := hP.c0
        replace hP1 : w8.cell? ⟨BhP, 1, none⟩ = some (.int .i64 v) := hP.c1
        replace hP2 : w8.cell? ⟨BhP, 2, none⟩ = some (.int .i64 e) := hP.c2
        replace hPf := hP.fz
        clear hk tp7
        have tp8 := tpn
        clear tpn
        obtain ⟨u, ⟨qd, qv, qe⟩, ⟨rd, rv, re⟩, hnd, hfl, hqs, hwr, hov⟩ := HO.out.write HD.out (o : Int) s (by omega) (by omega)
        have hsm : s.size ≤ maxLen := by unfold maxLen; omega
        have kn := fun w => needs_any ⟨d, v, e⟩ (o : Int) s.size true w hdm.out
        have kf := fun w => fill_any ⟨d, v, e⟩ u disk w hdm.out (by have := HD.out; unfold maxLen; omega)
        have kw := fun w => write_any ⟨qd, qv, qe⟩ (o : Int) s w (by unfold maxLen; simp only at hqs ⊢; omega) hsm
        rw [hnd] at kn
        rw [hfl] at kf
        rw [hwr] at kw
        simp only [Pg.val] at kn kf kw
        have KN := Lib.hid kn; have KF := Lib.hid kf; have KW := Lib.hid kw; have HOV := Lib.hid hov
        have hos : o + s.size ≤ 16 := by omega
        have HS := Lib.hid hs
        clear kn kf kw hnd hfl hwr hov hqs hs hsm
        go_wp2_with fail
        refine (KN.out _).mono ?_; rintro e w9 ⟨rfl, hb⟩
        replace HK := Lib.hid (HK.out.trans (Tock.ofBelow hb (Nat.le_refl _)))
        replace hR := hR.below hb
        replace hP := hP.below hb
        have tp9 := tp8.below hb tp8.hi
        clear tp8
        replace hP0 : w9.cell? ⟨BhP, 0, none⟩ = some (.string d) := hP.c0
        replace hP1 : w9.cell? ⟨BhP, 1, none⟩ = some (.int .i64 v) := hP.c1
        replace hP2 : w9.cell? ⟨BhP, 2, none⟩ = some (.int .i64 e) := hP.c2
        replace hPf := hP.fz
        clear hb
        go_wp2_with fail
        refine (KF.out _).mono ?_; rintro e w10 ⟨rfl, hb⟩
        replace HK := Lib.hid (HK.out.trans (Tock.ofBelow hb (Nat.le_refl _)))
        replace hR := hR.below hb
        replace hP := hP.below hb
        have tp10 := tp9.below hb tp9.hi
        clear tp9
        replace hP0 : w10.cell? ⟨BhP, 0, none⟩ = some (.string d) := hP.c0
        replace hP1 : w10.cell? ⟨BhP, 1, none⟩ = some (.int .i64 v) := hP.c1
        replace hP2 : w10.cell? ⟨BhP, 2, none⟩ = some (.int .i64 e) := hP.c2
        replace hPf := hP.fz
        clear hb
        have hRlt := hR.lt
        have hPlt := hP.lt
        go_wp2_with fail
        clear hRlt hPlt
        have hQ := Hs.new w10 qd qv qe
        have hRhQ : w10.heap.size ≠ BhR := by have := hR.lt; omega
        have hQhR : BhR ≠ w10.heap.size := by have := hR.lt; omega
        have hPhQ : w10.heap.size ≠ BhP := by have := hP.lt; omega
        have hQhP : BhP ≠ w10.heap.size := by have := hP.lt; omega
        replace hR := hR.alloc (.cells #[.string qd, .int .i64 qv, .int .i64 qe] 27)
        replace hP := hP.alloc (.cells #[.string qd, .int .i64 qv, .int .i64 qe] 27)
        have hQt : w10.heap.size ≠ w.heap.size := by have := tp10.hi; omega
        have hQw : w.heap.size ≤ w10.heap.size := HK.out.size
        replace HK := Lib.hid (HK.out.trans (Tock.ofBelow ((Below.refl w10.heap.size w10).alloc (Nat.le_refl _) (.cells #[.string qd, .int .i64 qv, .int .i64 qe] 27)) (Nat.le_refl _)))
        have tp11 := tp10.below ((Below.refl w10.heap.size w10).alloc (Nat.le_refl _) (.cells #[.string qd, .int .i64 qv, .int .i64 qe] 27)) tp10.hi
        clear tp10
        clear hP0 hP1 hP2 hPf
        generalize w10.alloc (.cells #[.string qd, .int .i64 qv, .int .i64 qe] 27) = w11 at *
        generalize w10.heap.size = BhQ at *
        replace hP0 : w11.cell? ⟨BhP, 0, none⟩ = some (.string d) := hP.c0
        replace hP1 : w11.cell? ⟨BhP, 1, none⟩ = some (.int .i64 v) := hP.c1
        replace hP2 : w11.cell? ⟨BhP, 2, none⟩ = some (.int .i64 e) := hP.c2
        replace hPf := hP.fz
        replace hQ0 : w11.cell? ⟨BhQ, 0, none⟩ = some (.string qd) := hQ.c0
        replace hQ1 : w11.cell? ⟨BhQ, 1, none⟩ = some (.int .i64 qv) := hQ.c1
        replace hQ2 : w11.cell? ⟨BhQ, 2, none⟩ = some (.int .i64 qe) := hQ.c2
        replace hQf := hQ.fz
        refine (KW.out _).mono ?_; rintro e w12 ⟨rfl, hb⟩
        replace HK := Lib.hid (HK.out.trans (Tock.ofBelow hb (Nat.le_refl _)))
        replace hR := hR.below hb
        replace hP := hP.below hb
        replace hQ := hQ.below hb
        have tp12 := tp11.below hb tp11.hi
        clear tp11
        replace hP0 : w12.cell? ⟨BhP, 0, none⟩ = some (.string d) := hP.c0
        replace hP1 : w12.cell? ⟨BhP, 1, none⟩ = some (.int .i64 v) := hP.c1
        replace hP2 : w12.cell? ⟨BhP, 2, none⟩ = some (.int .i64 e) := hP.c2
        replace hPf := hP.fz
        replace hQ0 : w12.cell? ⟨BhQ, 0, none⟩ = some (.string qd) := hQ.c0
        replace hQ1 : w12.cell? ⟨BhQ, 1, none⟩ = some (.int .i64 qv) := hQ.c1
        replace hQ2 : w12.cell? ⟨BhQ, 2, none⟩ = some (.int .i64 qe) := hQ.c2
        replace hQf := hQ.fz
        clear hb
        have hRlt := hR.lt
        have hPlt := hP.lt
        have hQlt := hQ.lt
        go_upto_region 18 with (fail)
        clear hRlt hPlt hQlt
        have hW := Hs.new w12 rd rv re
        have hRhW : w12.heap.size ≠ BhR := by have := hR.lt; omega
        have hWhR : BhR ≠ w12.heap.size := by have := hR.lt; omega
        have hPhW : w12.heap.size ≠ BhP := by have := hP.lt; omega
        have hWhP : BhP ≠ w12.heap.size := by have := hP.lt; omega
        have hQhW : w12.heap.size ≠ BhQ := by have := hQ.lt; omega
        have hWhQ : BhQ ≠ w12.heap.size := by have := hQ.lt; omega
        replace hR := hR.alloc (.cells #[.string rd, .int .i64 rv, .int .i64 re] 27)
        replace hP := hP.alloc (.cells #[.string rd, .int .i64 rv, .int .i64 re] 27)
        replace hQ := hQ.alloc (.cells #[.string rd, .int .i64 rv, .int .i64 re] 27)
        have hWt : w12.heap.size ≠ w.heap.size := by have := tp12.hi; omega
        have hWw : w.heap.size ≤ w12.heap.size := HK.out.size
        replace HK := Lib.hid (HK.out.trans (Tock.ofBelow ((Below.refl w12.heap.size w12).alloc (Nat.le_refl _) (.cells #[.string rd, .int .i64 rv, .int .i64 re] 27)) (Nat.le_refl _)))
        have tp13 := tp12.below ((Below.refl w12.heap.size w12).alloc (Nat.le_refl _) (.cells #[.string rd, .int .i64 rv, .int .i64 re] 27)) tp12.hi
        clear tp12
        clear hP0 hP1 hP2 hPf hQ0 hQ1 hQ2 hQf
        generalize w12.alloc (.cells #[.string rd, .int .i64 rv, .int .i64 re] 27) = w13 at *
        generalize w12.heap.size = BhW at *
        replace hP0 : w13.cell? ⟨BhP, 0, none⟩ = some (.string d) := hP.c0
        replace hP1 : w13.cell? ⟨BhP, 1, none⟩ = some (.int .i64 v) := hP.c1
        replace hP2 : w13.cell? ⟨BhP, 2, none⟩ = some (.int .i64 e) := hP.c2
        replace hPf := hP.fz
        replace hQ0 : w13.cell? ⟨BhQ, 0, none⟩ = some (.string qd) := hQ.c0
        replace hQ1 : w13.cell? ⟨BhQ, 1, none⟩ = some (.int .i64 qv) := hQ.c1
        replace hQ2 : w13.cell? ⟨BhQ, 2, none⟩ = some (.int .i64 qe) := hQ.c2
        replace hQf := hQ.fz
        replace hW0 : w13.cell? ⟨BhW, 0, none⟩ = some (.string rd) := hW.c0
        replace hW1 : w13.cell? ⟨BhW, 1, none⟩ = some (.int .i64 rv) := hW.c1
        replace hW2 : w13.cell? ⟨BhW, 2, none⟩ = some (.int .i64 re) := hW.c2
        replace hWf := hW.fz
        go_upto_region 21 with (fail)
        clear hP0 hP1 hP2 hPf hQ0 hQ1 hQ2 hQf hW0 hW1 hW2 hWf
        replace hP := hP.put rd rv re
        replace hR := hR.other (show BhR ≠ BhP from by assumption) rd rv re
        replace hQ := hQ.other (show BhQ ≠ BhP from by assumption) rd rv re
        replace hW := hW.other (show BhW ≠ BhP from by assumption) rd rv re
        replace HK := Lib.hid (HK.out.put hPw rd rv re)
        have tp14 := tp13.put3 hPt hPw rd rv re
        clear tp13
        have hW : Hid (((w13.setCell ⟨BhP, 0, none⟩ (.string rd)).setCell ⟨BhP, 1, none⟩ (.int .i64 rv)).setCell ⟨BhP, 2, none⟩ (.int .i64 re) = put3 w13 BhP rd rv re) := rfl
        rw [hW.out]; clear hW
        generalize put3 w13 BhP rd rv re = w14 at *
        replace hP0 : w14.cell? ⟨BhP, 0, none⟩ = some (.string rd) := hP.c0
        replace hP1 : w14.cell? ⟨BhP, 1, none⟩ = some (.int .i64 rv) := hP.c1
        replace hP2 : w14.cell? ⟨BhP, 2, none⟩ = some (.int .i64 re) := hP.c2
        replace hPf := hP.fz
        replace hQ0 : w14.cell? ⟨BhQ, 0, none⟩ = some (.string qd) := hQ.c0
        replace hQ1 : w14.cell? ⟨BhQ, 1, none⟩ = some (.int .i64 qv) := hQ.c1
        replace hQ2 : w14.cell? ⟨BhQ, 2, none⟩ = some (.int .i64 qe) := hQ.c2
        replace hQf := hQ.fz
        replace hW0 : w14.cell? ⟨BhW, 0, none⟩ = some (.string rd) := hW.c0
        replace hW1 : w14.cell? ⟨BhW, 1, none⟩ = some (.int .i64 rv) := hW.c1
        replace hW2 : w14.cell? ⟨BhW, 2, none⟩ = some (.int .i64 re) := hW.c2
        replace hWf := hW.fz
        have hcp := fun cap => copy_row w14 BhR o cap f s hR (by omega) hos
        have hRc := hR.copy o s hos
        have hPc := setCells_other (l := s.data.toList.map fun x => Value.int .u8 (x.toNat : Int)) (o := o) hP (show BhP ≠ BhR from by assumption)
        have tpc := tp14.setCells hRt hRw o (s.data.toList.map fun x => Value.int .u8 (x.toNat : Int))
        have HKc := Lib.hid (HK.out.setCells hRw o (s.data.toList.map fun x => Value.int .u8 (x.toNat : Int)))
        have hCC := HC.out.1
        have hC1 : (o : Int) ≤ (16 : Int) := by omega
        have hC2 : (16 : Int) ≤ (C : Int) := by omega
        have hC3 : (16 : Nat) ≤ C := by omega
        have hC4 : o ≤ 16 := by omega
        generalize (s.data.toList.map fun x => Value.int .u8 (x.toNat : Int)) = vs at *
        clear hP0 hP1 hP2 hPf hQ hQ0 hQ1 hQ2 hQf hW hW0 hW1 hW2 hWf hP hR tp14 HK
        go_wp2_with fail
        go_roundw
        case rel => exact ⟨k - 1, _, ⟨rd, rv, re⟩, by congr 1; omega, by omega, hPc, HOV, hRc, tpc, HKc⟩
        case measure => simp [intOf]; omega
end Go.Proofs.Ythimcidkmnobnaa
