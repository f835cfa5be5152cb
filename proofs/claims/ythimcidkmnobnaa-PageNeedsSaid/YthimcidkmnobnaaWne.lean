/- The walk of PageNeeds. -/
import Derived.Test.YthimcidkmnobnaaAtt
namespace Go.Proofs.Ythimcidkmnobnaa
open Go.ChangeShapes Go.WideShapes Go.ChangeAt Go.RowKit

theorem less0 (u0 u1 : Bool) : bits .andNot .i64 (sb u0 u1) 1 = sb false u1 := by cases u0 <;> cases u1 <;> decide
theorem less1 (u0 u1 : Bool) : bits .andNot .i64 (sb u0 u1) 2 = sb u0 false := by cases u0 <;> cases u1 <;> decide
theorem ne0 (u1 : Bool) : (sb false u1 != sb true u1) = true := by cases u1 <;> decide
theorem ne1 (u0 : Bool) : (sb u0 false != sb u0 true) = true := by cases u0 <;> decide

set_option maxRecDepth 100000 in
set_option maxHeartbeats 16000000 in
theorem needs_walk (a : Option Addr) (len cap : Nat) (wo : Bool) (w : World) (ha : ArgRow w a len) (hl : len ≤ maxLen) :
    Calls Try.prog 8 #[.slice a len cap, .bool wo] w (RetW (.bool true) w) := by
  have HT := Lib.hid (tape_start w a len cap ha hl)
  go_enter Try.func8, Try.ntmps8
  go_wp2_with fail
  have tp0 := HT.out
  clear HT
  have HK : Hid (Tock w.heap.size w (w.alloc (.cells #[.slice a len cap, .int .i64 0] 25))) := Tock.ofBelow ((Below.refl w.heap.size w).alloc (Nat.le_refl _) _) (Nat.le_refl _)
  generalize w.alloc (.cells #[.slice a len cap, .int .i64 0] 25) = w0 at *
  refine (mkpage_any _ _ _ _ _ _ tp0).mono ?_
  rintro e w1 ⟨p, hp, rfl, hk, tpn⟩
  replace HK := Lib.hid (HK.out.trans hk)
  clear hk tp0
  have tp1 := tpn
  clear tpn
  obtain ⟨d, v, e⟩ := p
  simp only [Pg.val] at hp ⊢
  go_wp2_with fail
  have hP := Hs.new w1 d v e
  have hPt : w1.heap.size ≠ w.heap.size := by have := tp1.hi; omega
  have hPw : w.heap.size ≤ w1.heap.size := HK.out.size
  replace HK := Lib.hid (HK.out.trans (Tock.ofBelow ((Below.refl w1.heap.size w1).alloc (Nat.le_refl _) (.cells #[.string d, .int .i64 v, .int .i64 e] 27)) (Nat.le_refl _)))
  have tp2 := tp1.below ((Below.refl w1.heap.size w1).alloc (Nat.le_refl _) (.cells #[.string d, .int .i64 v, .int .i64 e] 27)) tp1.hi
  clear tp1
  generalize w1.alloc (.cells #[.string d, .int .i64 v, .int .i64 e] 27) = w2 at *
  generalize w1.heap.size = BhP at *
  replace hP0 : w2.cell? ⟨BhP, 0, none⟩ = some (.string d) := hP.c0
  replace hP1 : w2.cell? ⟨BhP, 1, none⟩ = some (.int .i64 v) := hP.c1
  replace hP2 : w2.cell? ⟨BhP, 2, none⟩ = some (.int .i64 e) := hP.c2
  replace hPf := hP.fz
  refine (next_tp 17 _ _ _ _ _ _ (by omega) (by omega) tp2).mono ?_
  rintro e w3 ⟨off, oa, ob, rfl, hk, tpn⟩
  replace hk := hk.tock
  replace hP := hP.tock hPt hk
  replace HK := Lib.hid (HK.out.trans hk)
  replace hP0 : w3.cell? ⟨BhP, 0, none⟩ = some (.string d) := hP.c0
  replace hP1 : w3.cell? ⟨BhP, 1, none⟩ = some (.int .i64 v) := hP.c1
  replace hP2 : w3.cell? ⟨BhP, 2, none⟩ = some (.int .i64 e) := hP.c2
  replace hPf := hP.fz
  clear hk tp2
  have tp3 := tpn
  clear tpn
  go_wp2_with fail
  refine (next_tp (16 - off + 1) _ _ _ _ _ _ (by omega) (by omega) tp3).mono ?_
  rintro e w4 ⟨n, na, nbb, rfl, hk, tpn⟩
  replace hk := hk.tock
  replace hP := hP.tock hPt hk
  replace HK := Lib.hid (HK.out.trans hk)
  replace hP0 : w4.cell? ⟨BhP, 0, none⟩ = some (.string d) := hP.c0
  replace hP1 : w4.cell? ⟨BhP, 1, none⟩ = some (.int .i64 v) := hP.c1
  replace hP2 : w4.cell? ⟨BhP, 2, none⟩ = some (.int .i64 e) := hP.c2
  replace hPf := hP.fz
  clear hk tp3
  have tp4 := tpn
  clear tpn
  obtain ⟨m, rfl⟩ := Int.eq_ofNat_of_zero_le na
  have hd : d.size ≤ maxLen := by unfold maxLen; omega
  have kn := fun w => needs_any ⟨d, v, e⟩ off m wo w hd
  have kc := fun w => check_any ⟨d, v, e⟩ w hd
  have hrng : rng off m = true := rng_iff.2 ⟨oa, by omega, by omega, by omega⟩
  cases hc : chk ⟨d, v, e⟩ with
  | false =>
    rw [needs_bad hc] at kn
    rw [hc] at kc
    simp only [Pg.val] at kn kc
    have KN := Lib.hid kn; have KC := Lib.hid kc
    clear kn kc hrng hc hd hp
    go_wp2_with fail
    refine (KN.out _).mono ?_; rintro e w5 ⟨rfl, hb⟩
    replace HK := Lib.hid (HK.out.trans (Tock.ofBelow hb (Nat.le_refl _)))
    replace hP := hP.below hb
    have tp5 := tp4.below hb tp4.hi
    clear tp4
    replace hP0 : w5.cell? ⟨BhP, 0, none⟩ = some (.string d) := hP.c0
    replace hP1 : w5.cell? ⟨BhP, 1, none⟩ = some (.int .i64 v) := hP.c1
    replace hP2 : w5.cell? ⟨BhP, 2, none⟩ = some (.int .i64 e) := hP.c2
    replace hPf := hP.fz
    clear hb
    go_wp2_with fail
    refine (KC.out _).mono ?_; rintro e w6 ⟨rfl, hb⟩
    replace HK := Lib.hid (HK.out.trans (Tock.ofBelow hb (Nat.le_refl _)))
    replace hP := hP.below hb
    have tp6 := tp5.below hb tp5.hi
    clear tp5
    replace hP0 : w6.cell? ⟨BhP, 0, none⟩ = some (.string d) := hP.c0
    replace hP1 : w6.cell? ⟨BhP, 1, none⟩ = some (.int .i64 v) := hP.c1
    replace hP2 : w6.cell? ⟨BhP, 2, none⟩ = some (.int .i64 e) := hP.c2
    replace hPf := hP.fz
    clear hb
    go_wp2_with fail
    have HB := Lib.hid tp6.bel
    clear tp6
    clear HK
    refine (awake_any _).mono ?_; rintro e w7 ⟨rfl, hb⟩
    replace HB := Lib.hid (HB.out.trans (hb.mono HB.out.size))
    replace hP := hP.below hb
    replace hP0 : w7.cell? ⟨BhP, 0, none⟩ = some (.string d) := hP.c0
    replace hP1 : w7.cell? ⟨BhP, 1, none⟩ = some (.int .i64 v) := hP.c1
    replace hP2 : w7.cell? ⟨BhP, 2, none⟩ = some (.int .i64 e) := hP.c2
    replace hPf := hP.fz
    clear hb
    go_wp2_with fail
    go_ret
    exact RetW.mk rfl HB.out
  | true =>
    obtain ⟨u0, u1, hnd, hd16, hv3, hF, hF0, hF1⟩ := needs_plain hc off m wo hrng
    rw [hnd] at kn
    rw [hc] at kc
    simp only [Pg.val] at kn kc hd16 hv3
    have KN := Lib.hid kn; have KC := Lib.hid kc; have HF := Lib.hid hF; have HF0 := Lib.hid hF0; have HF1 := Lib.hid hF1; have HV3 := Lib.hid hv3
    clear kn kc hrng hc hp hnd hF hF0 hF1 hv3 hd16
    have HD := Lib.hid hd
    clear hd
    go_wp2_with fail
    refine (KN.out _).mono ?_; rintro e w5 ⟨rfl, hb⟩
    replace HK := Lib.hid (HK.out.trans (Tock.ofBelow hb (Nat.le_refl _)))
    replace hP := hP.below hb
    have tp5 := tp4.below hb tp4.hi
    clear tp4
    replace hP0 : w5.cell? ⟨BhP, 0, none⟩ = some (.string d) := hP.c0
    replace hP1 : w5.cell? ⟨BhP, 1, none⟩ = some (.int .i64 v) := hP.c1
    replace hP2 : w5.cell? ⟨BhP, 2, none⟩ = some (.int .i64 e) := hP.c2
    replace hPf := hP.fz
    clear hb
    go_wp2_with fail
    refine (KC.out _).mono ?_; rintro e w6 ⟨rfl, hb⟩
    replace HK := Lib.hid (HK.out.trans (Tock.ofBelow hb (Nat.le_refl _)))
    replace hP := hP.below hb
    have tp6 := tp5.below hb tp5.hi
    clear tp5
    replace hP0 : w6.cell? ⟨BhP, 0, none⟩ = some (.string d) := hP.c0
    replace hP1 : w6.cell? ⟨BhP, 1, none⟩ = some (.int .i64 v) := hP.c1
    replace hP2 : w6.cell? ⟨BhP, 2, none⟩ = some (.int .i64 e) := hP.c2
    replace hPf := hP.fz
    clear hb
    go_upto_region 8 with (fail)
    go_cut [11, 12] (fun s11 s12 wx => ∃ (g : Nat) (F : Pg), s11 = .pointer (some ⟨g, 0, none⟩) ∧ s12 = .int .i64 0 ∧ Hs wx g F ∧ Hs wx BhP ⟨d, v, e⟩ ∧ TP w w.heap.size a len cap wx ∧ Hid (Tock w.heap.size w wx) ∧ g ≠ w.heap.size ∧ Hid (F.d.size = 16 ∧ readyV F off m wo = 0))
    case first =>
      have tpd := tp6.drew
      have hPd := hP.drew
      have HKd := Lib.hid HK.out.drew
      have tl : w.heap.size < w6.drew.heap.size := tpd.hi
      have pl : BhP < w6.drew.heap.size := hP.lt
      have tl5 := tp6.hi
      have pl5 := hP.lt
      go_region_held3 (fun w' => w'.cell? ⟨BhP, 0, none⟩ = some (.string d) ∧ w'.cell? ⟨BhP, 1, none⟩ = some (.int .i64 v) ∧ w'.cell? ⟨BhP, 2, none⟩ = some (.int .i64 e)) (go_keep) (first | (go_at_call 23; refine (bytes_any 16 _ _ _ _ _ _ (by omega) (by first | assumption | exact TP.alloc (by assumption) _ | exact (TP.alloc (by assumption) _).drew)).mono ?_; rintro e wb ⟨s, hs, rfl, hk, tpn⟩; have HS := Lib.hid hs; clear hs; have tl' : w.heap.size < wb.heap.size := Nat.lt_of_lt_of_le (by first | assumption | (simp only [World.size_alloc]; omega) | (simp; omega)) hk.size; have pl' : BhP < wb.heap.size := Nat.lt_of_lt_of_le (by first | assumption | (simp only [World.size_alloc]; omega) | (simp; omega)) hk.size; have k0 := hk.cell (b := BhP) (o := 0) (by assumption) (by first | assumption | (simp only [World.size_alloc]; omega) | (simp; omega)); have k1 := hk.cell (b := BhP) (o := 1) (by assumption) (by first | assumption | (simp only [World.size_alloc]; omega) | (simp; omega)); have k2 := hk.cell (b := BhP) (o := 2) (by assumption) (by first | assumption | (simp only [World.size_alloc]; omega) | (simp; omega)); have HKn : Hid (Tock w.heap.size w wb) := Lib.hid (by first | exact Tock.trans (Hid.out (p := Tock w.heap.size w _) (by assumption)) hk | exact Tock.trans (Tock.alloc (Hid.out (p := Tock w.heap.size w _) (by assumption)) _) hk | exact Tock.trans (Tock.alloc (Hid.out (p := Tock w.heap.size w _) (by assumption)) _) hk.undrew); (try ((first | (replace nb := nb.tock hk) | (have nb := NewB.tock (NewB.mk' (t := w.heap.size) (B := BhP) (by assumption) (by assumption)) hk) | (have nb := NewB.tock (NewB.mk' (t := w.heap.size) (B := BhP) (by assumption) (by assumption)) hk.undrew)); have g0 := nb.hs.c0; have g1 := nb.hs.c1; have g2 := nb.hs.c2; have gf := nb.hs.fz; have gn := nb.nB; have gn' := nb.nB')); have hPn : Hs wb BhP ⟨d, v, e⟩ := Hs.tock (by first | assumption | exact Hs.alloc (by assumption) _ | exact (Hs.alloc (by assumption) _).drew) hPt hk) | (go_at_call 24; obtain ⟨⟨Fd, Fv, Fe⟩, hw, hq, hrd⟩ := HF.out s HS.out; have kw := fun w => fill_any ⟨d, v, e⟩ (sb u0 u1) s w HD.out (by have := HS.out; unfold maxLen; omega); rw [hw] at kw; simp only [Pg.val] at kw; refine (kw _).mono ?_; rintro e wf ⟨rfl, hb⟩; have hk := Tock.ofBelow (t := w.heap.size) hb (Nat.le_refl _); have HQ := Lib.hid (And.intro hq hrd); have tpn2 := TP.belowW (w0 := w) (t := w.heap.size) (a := a) (len := len) (cap := cap) (by first | assumption | exact TP.alloc (by assumption) _ | exact (TP.alloc (by assumption) _).drew) hb; clear hq hrd hw kw; have tl' : w.heap.size < wf.heap.size := Nat.lt_of_lt_of_le (by first | assumption | (simp only [World.size_alloc]; omega) | (simp; omega)) hk.size; have pl' : BhP < wf.heap.size := Nat.lt_of_lt_of_le (by first | assumption | (simp only [World.size_alloc]; omega) | (simp; omega)) hk.size; have k0 := hk.cell (b := BhP) (o := 0) (by assumption) (by first | assumption | (simp only [World.size_alloc]; omega) | (simp; omega)); have k1 := hk.cell (b := BhP) (o := 1) (by assumption) (by first | assumption | (simp only [World.size_alloc]; omega) | (simp; omega)); have k2 := hk.cell (b := BhP) (o := 2) (by assumption) (by first | assumption | (simp only [World.size_alloc]; omega) | (simp; omega)); have HKn : Hid (Tock w.heap.size w wf) := Lib.hid (by first | exact Tock.trans (Hid.out (p := Tock w.heap.size w _) (by assumption)) hk | exact Tock.trans (Tock.alloc (Hid.out (p := Tock w.heap.size w _) (by assumption)) _) hk | exact Tock.trans (Tock.alloc (Hid.out (p := Tock w.heap.size w _) (by assumption)) _) hk.undrew); (try ((first | (replace nb := nb.tock hk) | (have nb := NewB.tock (NewB.mk' (t := w.heap.size) (B := BhP) (by assumption) (by assumption)) hk) | (have nb := NewB.tock (NewB.mk' (t := w.heap.size) (B := BhP) (by assumption) (by assumption)) hk.undrew)); have g0 := nb.hs.c0; have g1 := nb.hs.c1; have g2 := nb.hs.c2; have gf := nb.hs.fz; have gn := nb.nB; have gn' := nb.nB')); have hPn : Hs wf BhP ⟨d, v, e⟩ := Hs.tock (by first | assumption | exact Hs.alloc (by assumption) _ | exact (Hs.alloc (by assumption) _).drew) hPt hk))
      all_goals
        go_wp2_with fail
        go_meet
        first
        | exact ⟨_, ⟨Fd, Fv, Fe⟩, rfl, rfl, Hs.new _ _ _ _, hPn.alloc _, tpn2.alloc _, Lib.hid (HKn.out.alloc _), by have := tpn2.hi; omega, HQ⟩
        | exact ⟨_, ⟨Fd, Fv, Fe⟩, rfl, rfl, nb.hs.put _ _ _, hPn.other nb.nB' _ _ _, tpn2.put3 nb.nt (Nat.le_of_lt nb.gt) _ _ _, Lib.hid (HKn.out.put (Nat.le_of_lt nb.gt) _ _ _), nb.nt, HQ⟩
    case rest =>
      clear hP hP0 hP1 hP2 hPf HK tp6 HF
      obtain ⟨g, ⟨Fd, Fv, Fe⟩, rfl, rfl, hG, hP, tpx, HK, hGt, HQ⟩ := hcut
      obtain ⟨hFs, hrd⟩ := HQ.out
      simp only at hFs
      have HQ1 := Lib.hid hFs
      have hrd' := hrd
      clear hFs HQ
      have hG0 := hG.c0; have hG1 := hG.c1; have hG2 := hG.c2
      have hP0 := hP.c0; have hP1 := hP.c1; have hP2 := hP.c2
      have HRD := Lib.hid hrd
      clear hrd hrd'
      
      go_upto_region 9 with (fail)
      go_cut [77] (fun s77 wx => s77 = .bool false ∧ Hs wx BhP ⟨d, v, e⟩ ∧ TP w w.heap.size a len cap wx ∧ Hid (Tock w.heap.size w wx))
      case first =>
        have tpd := tpx.drew
        have hPd := hP.drew
        have hGd := hG.drew
        have HKd := Lib.hid HK.out.drew
        have hHS : Hid (v = 3 → (sb u0 u1 != 0) = false) := fun h => by obtain ⟨rfl, rfl⟩ := HV3.out h; decide
        have vv : Hid True := trivial
        have gl : g < wc.drew.heap.size := hG.lt
        have pl : BhP < wc.drew.heap.size := hP.lt
        by_cases hv3 : v = 3
        · have hn0 := hHS.out hv3
          subst hv3
          (first | go_region_held3 (fun w' => w'.cell? ⟨g, 0, none⟩ = some (.string Fd) ∧ w'.cell? ⟨g, 1, none⟩ = some (.int .i64 Fv) ∧ w'.cell? ⟨g, 2, none⟩ = some (.int .i64 Fe) ∧ w'.cell? ⟨BhP, 1, none⟩ = some (.int .i64 3)) (go_keep) (first | (go_at_call 23; refine (bytes_any m _ _ _ _ _ _ (by omega) (by assumption)).mono ?_; rintro e w' ⟨s, hs, rfl, hk, tpn⟩; have HS := Lib.hid hs; clear hs; have gl' : g < w'.heap.size := Nat.lt_of_lt_of_le (by assumption) hk.size; have pl' : BhP < w'.heap.size := Nat.lt_of_lt_of_le (by assumption) hk.size; have q0 := hk.cell (b := g) (o := 0) hGt (by assumption); have q1 := hk.cell (b := g) (o := 1) hGt (by assumption); have q2 := hk.cell (b := g) (o := 2) hGt (by assumption); have k0 := hk.cell (b := BhP) (o := 0) hPt (by assumption); have k1 := hk.cell (b := BhP) (o := 1) hPt (by assumption); have k2 := hk.cell (b := BhP) (o := 2) hPt (by assumption); have hPn : Hs w' BhP ⟨d, 3, e⟩ := Hs.tock (by assumption) hPt hk; have HKn : Hid (Tock w.heap.size w w') := Lib.hid (Tock.trans (Hid.out (p := Tock w.heap.size w _) (by assumption)) hk)) | (go_at_call 32; have kw := fun w => attempt_any ⟨Fd, Fv, Fe⟩ off s wo w (by have := HQ1.out; unfold maxLen; simp only; omega) (by have := HS.out; unfold maxLen; omega); rw [HS.out, HRD.out] at kw; simp only [Pg.val] at kw; refine (kw _).mono ?_; rintro e w' ⟨rfl, hb⟩; have hk := Tock.ofBelow (t := w.heap.size) hb (Nat.le_refl _); have tpn2 := TP.belowW (w0 := w) (t := w.heap.size) (a := a) (len := len) (cap := cap) (by assumption) hb; clear kw; have gl' : g < w'.heap.size := Nat.lt_of_lt_of_le (by assumption) hk.size; have pl' : BhP < w'.heap.size := Nat.lt_of_lt_of_le (by assumption) hk.size; have q0 := hk.cell (b := g) (o := 0) hGt (by assumption); have q1 := hk.cell (b := g) (o := 1) hGt (by assumption); have q2 := hk.cell (b := g) (o := 2) hGt (by assumption); have k0 := hk.cell (b := BhP) (o := 0) hPt (by assumption); have k1 := hk.cell (b := BhP) (o := 1) hPt (by assumption); have k2 := hk.cell (b := BhP) (o := 2) hPt (by assumption); have hPn : Hs w' BhP ⟨d, 3, e⟩ := Hs.tock (by assumption) hPt hk; have HKn : Hid (Tock w.heap.size w w') := Lib.hid (Tock.trans (Hid.out (p := Tock w.heap.size w _) (by assumption)) hk))) | fail)
          all_goals
            go_wp2_with fail
            go_meet
            exact ⟨rfl, hPn, tpn2, HKn⟩
        · have hv4 : (v == 3) = false := by simpa using hv3
          clear hv3
          refine wp_region_held_drew (S := fun w' => w'.cell? ⟨g, 0, none⟩ = some (.string Fd) ∧ w'.cell? ⟨g, 1, none⟩ = some (.int .i64 Fv) ∧ w'.cell? ⟨g, 2, none⟩ = some (.int .i64 Fe) ∧ w'.cell? ⟨BhP, 1, none⟩ = some (.int .i64 v)) (by kernel_rfl) (by (try dsimp only); go_keep) (fun hHeld => ?_)
          refine wpAnyH_take (i := 0) (oi := { dst := some 53, op := Op.move (Operand.tmp 10), type := 31, pos := "more.go:50", after := #[], guard := none }) (v := ?_) rfl (by kernel_rfl) (by kernel_rfl) (by kernel_rfl) (fun _ _ _ h => h) (Or.inl ⟨by rfl, ?_⟩) (by assumption) ?_
          rotate_left
          focus ((intro w hSw; (try dsimp only at hSw); go_simp) <;> (try with_reducible rfl))
          try simp only [Act.put, List.setIfInBounds_toArray, List.set_cons_zero, List.set_cons_succ]
          refine wpAnyH_take (i := 1) (oi := { dst := some 54, op := Op.binOp BinOp.neq 31 (Operand.tmp 53) (Operand.const (Value.int IntKind.i64 0)) 31, type := 4, pos := "more.go:50", after := #[{ on := 0, ground := Ground.data }], guard := none }) (v := ?_) rfl (by kernel_rfl) (by kernel_rfl) (by kernel_rfl) (fun _ _ _ h => h) (Or.inl ⟨by rfl, ?_⟩) (by assumption) ?_
          rotate_left
          focus ((intro w hSw; (try dsimp only at hSw); go_simp) <;> (try with_reducible rfl))
          try simp only [Act.put, List.setIfInBounds_toArray, List.set_cons_zero, List.set_cons_succ]
          refine wpAnyH_take (i := 2) (oi := { dst := some 55, op := Op.move (Operand.tmp 54), type := 4, pos := "more.go:50", after := #[{ on := 1, ground := Ground.data }], guard := none }) (v := ?_) rfl (by kernel_rfl) (by kernel_rfl) (by kernel_rfl) (fun _ _ _ h => h) (Or.inl ⟨by rfl, ?_⟩) (by assumption) ?_
          rotate_left
          focus ((intro w hSw; (try dsimp only at hSw); go_simp) <;> (try with_reducible rfl))
          try simp only [Act.put, List.setIfInBounds_toArray, List.set_cons_zero, List.set_cons_succ]
          refine wpAnyH_take (i := 3) (oi := { dst := some 56, op := Op.move (Operand.tmp 12), type := 31, pos := "more.go:50", after := #[{ on := 2, ground := Ground.guard }], guard := some (2, false) }) (v := ?_) rfl (by kernel_rfl) (by kernel_rfl) (by kernel_rfl) (fun _ _ _ h => h) (Or.inl ⟨by rfl, ?_⟩) (by assumption) ?_
          rotate_left
          focus ((intro w hSw; (try dsimp only at hSw); go_simp) <;> (try with_reducible rfl))
          try simp only [Act.put, List.setIfInBounds_toArray, List.set_cons_zero, List.set_cons_succ]
          refine wpAnyH_take (i := 4) (oi := { dst := some 57, op := Op.binOp BinOp.neq 31 (Operand.tmp 56) (Operand.const (Value.int IntKind.i64 0)) 31, type := 4, pos := "more.go:50", after := #[{ on := 3, ground := Ground.data }, { on := 2, ground := Ground.guard }], guard := some (2, false) }) (v := ?_) rfl (by kernel_rfl) (by kernel_rfl) (by kernel_rfl) (fun _ _ _ h => h) (Or.inl ⟨by rfl, ?_⟩) (by assumption) ?_
          rotate_left
          focus ((intro w hSw; (try dsimp only at hSw); go_simp) <;> (try with_reducible rfl))
          try simp only [Act.put, List.setIfInBounds_toArray, List.set_cons_zero, List.set_cons_succ]
          refine wpAnyH_take (i := 5) (oi := { dst := some 58, op := Op.pick (Operand.tmp 55) (Operand.const (Value.bool true)) (Operand.tmp 57), type := 4, pos := "more.go:50", after := #[{ on := 2, ground := Ground.data }, { on := 4, ground := Ground.data }], guard := none }) (v := ?_) rfl (by kernel_rfl) (by kernel_rfl) (by kernel_rfl) (fun _ _ _ h => h) (Or.inl ⟨by rfl, ?_⟩) (by assumption) ?_
          rotate_left
          focus ((intro w hSw; (try dsimp only at hSw); go_simp) <;> (try with_reducible rfl))
          try simp only [Act.put, List.setIfInBounds_toArray, List.set_cons_zero, List.set_cons_succ]
          refine wpAnyH_take (i := 6) (oi := { dst := some 59, op := Op.move (Operand.tmp 58), type := 4, pos := "more.go:50", after := #[{ on := 5, ground := Ground.data }, { on := 2, ground := Ground.chain }], guard := none }) (v := ?_) rfl (by kernel_rfl) (by kernel_rfl) (by kernel_rfl) (fun _ _ _ h => h) (Or.inl ⟨by rfl, ?_⟩) (by assumption) ?_
          rotate_left
          focus ((intro w hSw; (try dsimp only at hSw); go_simp) <;> (try with_reducible rfl))
          try simp only [Act.put, List.setIfInBounds_toArray, List.set_cons_zero, List.set_cons_succ]
          refine wpAnyH_take (i := 7) (oi := { dst := some 60, op := Op.load 27 (Operand.tmp 11), type := 27, pos := "more.go:50", after := #[{ on := 6, ground := Ground.guard }], guard := some (6, false) }) (v := ?_) rfl (by kernel_rfl) (by kernel_rfl) (by kernel_rfl) (fun _ _ _ h => h) (Or.inl ⟨by rfl, ?_⟩) (by assumption) ?_
          rotate_left
          focus ((intro w hSw; (try dsimp only at hSw); go_simp) <;> (try with_reducible rfl))
          try simp only [Act.put, List.setIfInBounds_toArray, List.set_cons_zero, List.set_cons_succ]
          refine wpAnyH_take (i := 8) (oi := { dst := some 61, op := Op.move (Operand.tmp 7), type := 3, pos := "more.go:50", after := #[{ on := 6, ground := Ground.guard }], guard := some (6, false) }) (v := ?_) rfl (by kernel_rfl) (by kernel_rfl) (by kernel_rfl) (fun _ _ _ h => h) (Or.inl ⟨by rfl, ?_⟩) (by assumption) ?_
          rotate_left
          focus ((intro w hSw; (try dsimp only at hSw); go_simp) <;> (try with_reducible rfl))
          try simp only [Act.put, List.setIfInBounds_toArray, List.set_cons_zero, List.set_cons_succ]
          refine wpAnyH_take (i := 9) (oi := { dst := some 62, op := Op.move (Operand.tmp 5), type := 23, pos := "more.go:50", after := #[{ on := 6, ground := Ground.guard }], guard := some (6, false) }) (v := ?_) rfl (by kernel_rfl) (by kernel_rfl) (by kernel_rfl) (fun _ _ _ h => h) (Or.inl ⟨by rfl, ?_⟩) (by assumption) ?_
          rotate_left
          focus ((intro w hSw; (try dsimp only at hSw); go_simp) <;> (try with_reducible rfl))
          try simp only [Act.put, List.setIfInBounds_toArray, List.set_cons_zero, List.set_cons_succ]
          refine wpAnyH_take (i := 10) (oi := { dst := some 63, op := Op.move (Operand.tmp 8), type := 3, pos := "more.go:50", after := #[{ on := 6, ground := Ground.guard }], guard := some (6, false) }) (v := ?_) rfl (by kernel_rfl) (by kernel_rfl) (by kernel_rfl) (fun _ _ _ h => h) (Or.inl ⟨by rfl, ?_⟩) (by assumption) ?_
          rotate_left
          focus ((intro w hSw; (try dsimp only at hSw); go_simp) <;> (try with_reducible rfl))
          try simp only [Act.put, List.setIfInBounds_toArray, List.set_cons_zero, List.set_cons_succ]
          refine wpAnyH_take (i := 12) (oi := { dst := some 65, op := Op.move (Operand.tmp 1), type := 4, pos := "more.go:50", after := #[{ on := 6, ground := Ground.guard }], guard := some (6, false) }) (v := ?_) rfl (by kernel_rfl) (by kernel_rfl) (by kernel_rfl) (fun _ _ _ h => h) (Or.inl ⟨by rfl, ?_⟩) (by assumption) ?_
          rotate_left
          focus ((intro w hSw; (try dsimp only at hSw); go_simp) <;> (try with_reducible rfl))
          try simp only [Act.put, List.setIfInBounds_toArray, List.set_cons_zero, List.set_cons_succ]
          refine wpAnyH_ready (rs := [11]) (by kernel_rfl) (by simp) ?_
          refine AllReadyH.cons (o := { dst := some 64, op := Op.call { callee := Callee.value (Operand.func 23), args := #[Operand.tmp 62, Operand.tmp 63], argTypes := #[23, 3] }, type := 9, pos := "more.go:50", after := #[{ on := 9, ground := Ground.data }, { on := 10, ground := Ground.data }, { on := 6, ground := Ground.chain }, { on := 6, ground := Ground.guard }], guard := some (6, false) }) rfl (fun K hK => ?_) AllReadyH.nil
          go_simp
          (go_at_call 23; refine (bytes_any m _ _ _ _ _ _ (by omega) (by assumption)).mono ?_; rintro e w' ⟨s, hs, rfl, hk, tpn⟩; have HS := Lib.hid hs; clear hs; have gl' : g < w'.heap.size := Nat.lt_of_lt_of_le (by assumption) hk.size; have pl' : BhP < w'.heap.size := Nat.lt_of_lt_of_le (by assumption) hk.size; have q0 := hk.cell (b := g) (o := 0) hGt (by assumption); have q1 := hk.cell (b := g) (o := 1) hGt (by assumption); have q2 := hk.cell (b := g) (o := 2) hGt (by assumption); have k0 := hk.cell (b := BhP) (o := 0) hPt (by assumption); have k1 := hk.cell (b := BhP) (o := 1) hPt (by assumption); have k2 := hk.cell (b := BhP) (o := 2) hPt (by assumption); have hPn : Hs w' BhP ⟨d, v, e⟩ := Hs.tock (by assumption) hPt hk; have HKn : Hid (Tock w.heap.size w w') := Lib.hid (Tock.trans (Hid.out (p := Tock w.heap.size w _) (by assumption)) hk))
          go_wp2_with fail
          refine hK.out _ _ (by (try dsimp only); go_keep) (fun hHeld => ?_)
          clear hK K
          try simp only [Act.put, List.setIfInBounds_toArray, List.set_cons_zero, List.set_cons_succ]
          refine wpAnyH_ready (rs := [13]) (by kernel_rfl) (by simp) ?_
          refine AllReadyH.cons (o := { dst := some 66, op := Op.call { callee := Callee.value (Operand.func 32), args := #[Operand.tmp 60, Operand.tmp 61, Operand.tmp 64, Operand.tmp 65], argTypes := #[27, 3, 9, 4] }, type := 31, pos := "more.go:50", after := #[{ on := 7, ground := Ground.data }, { on := 8, ground := Ground.data }, { on := 11, ground := Ground.data }, { on := 12, ground := Ground.data }, { on := 11, ground := Ground.chain }, { on := 6, ground := Ground.guard }], guard := some (6, false) }) rfl (fun K hK => ?_) AllReadyH.nil
          go_simp
          (go_at_call 32; have kw := fun w => attempt_any ⟨Fd, Fv, Fe⟩ off s wo w (by have := HQ1.out; unfold maxLen; simp only; omega) (by have := HS.out; unfold maxLen; omega); rw [HS.out, HRD.out] at kw; simp only [Pg.val] at kw; refine (kw _).mono ?_; rintro e w' ⟨rfl, hb⟩; have hk := Tock.ofBelow (t := w.heap.size) hb (Nat.le_refl _); have tpn2 := TP.belowW (w0 := w) (t := w.heap.size) (a := a) (len := len) (cap := cap) (by assumption) hb; clear kw; have gl' : g < w'.heap.size := Nat.lt_of_lt_of_le (by assumption) hk.size; have pl' : BhP < w'.heap.size := Nat.lt_of_lt_of_le (by assumption) hk.size; have q0 := hk.cell (b := g) (o := 0) hGt (by assumption); have q1 := hk.cell (b := g) (o := 1) hGt (by assumption); have q2 := hk.cell (b := g) (o := 2) hGt (by assumption); have k0 := hk.cell (b := BhP) (o := 0) hPt (by assumption); have k1 := hk.cell (b := BhP) (o := 1) hPt (by assumption); have k2 := hk.cell (b := BhP) (o := 2) hPt (by assumption); have hPn : Hs w' BhP ⟨d, v, e⟩ := Hs.tock (by assumption) hPt hk; have HKn : Hid (Tock w.heap.size w w') := Lib.hid (Tock.trans (Hid.out (p := Tock w.heap.size w _) (by assumption)) hk))
          go_wp2_with fail
          refine hK.out _ _ (by (try dsimp only); go_keep) (fun hHeld => ?_)
          clear hK K
          try simp only [Act.put, List.setIfInBounds_toArray, List.set_cons_zero, List.set_cons_succ]
          refine wpAnyH_take (i := 14) (oi := { dst := some 67, op := Op.binOp BinOp.neq 31 (Operand.tmp 66) (Operand.const (Value.int IntKind.i64 0)) 31, type := 4, pos := "more.go:50", after := #[{ on := 13, ground := Ground.data }, { on := 6, ground := Ground.guard }], guard := some (6, false) }) (v := ?_) rfl (by kernel_rfl) (by kernel_rfl) (by kernel_rfl) (fun _ _ _ h => h) (Or.inl ⟨by rfl, ?_⟩) (by assumption) ?_
          rotate_left
          focus ((intro w hSw; (try dsimp only at hSw); go_simp) <;> (try with_reducible rfl))
          try simp only [Act.put, List.setIfInBounds_toArray, List.set_cons_zero, List.set_cons_succ]
          refine wpAnyH_take (i := 15) (oi := { dst := some 68, op := Op.pick (Operand.tmp 59) (Operand.const (Value.bool true)) (Operand.tmp 67), type := 4, pos := "more.go:50", after := #[{ on := 6, ground := Ground.data }, { on := 14, ground := Ground.data }], guard := none }) (v := ?_) rfl (by kernel_rfl) (by kernel_rfl) (by kernel_rfl) (fun _ _ _ h => h) (Or.inl ⟨by rfl, ?_⟩) (by assumption) ?_
          rotate_left
          focus ((intro w hSw; (try dsimp only at hSw); go_simp) <;> (try with_reducible rfl))
          try simp only [Act.put, List.setIfInBounds_toArray, List.set_cons_zero, List.set_cons_succ]
          refine wpAnyH_take (i := 16) (oi := { dst := some 69, op := Op.move (Operand.tmp 68), type := 4, pos := "more.go:50", after := #[{ on := 15, ground := Ground.data }, { on := 13, ground := Ground.chain }], guard := none }) (v := ?_) rfl (by kernel_rfl) (by kernel_rfl) (by kernel_rfl) (fun _ _ _ h => h) (Or.inl ⟨by rfl, ?_⟩) (by assumption) ?_
          rotate_left
          focus ((intro w hSw; (try dsimp only at hSw); go_simp) <;> (try with_reducible rfl))
          try simp only [Act.put, List.setIfInBounds_toArray, List.set_cons_zero, List.set_cons_succ]
          refine wpAnyH_take (i := 17) (oi := { dst := some 70, op := Op.fieldAddr 27 (Operand.tmp 6) 1, type := 0, pos := "more.go:50", after := #[{ on := 16, ground := Ground.guard }], guard := some (16, false) }) (v := ?_) rfl (by kernel_rfl) (by kernel_rfl) (by kernel_rfl) (fun _ _ _ h => h) (Or.inl ⟨by rfl, ?_⟩) (by assumption) ?_
          rotate_left
          focus ((intro w hSw; (try dsimp only at hSw); go_simp) <;> (try with_reducible rfl))
          try simp only [Act.put, List.setIfInBounds_toArray, List.set_cons_zero, List.set_cons_succ]
          refine wpAnyH_take (i := 18) (oi := { dst := some 71, op := Op.load 3 (Operand.tmp 70), type := 3, pos := "more.go:50", after := #[{ on := 17, ground := Ground.data }, { on := 16, ground := Ground.guard }], guard := some (16, false) }) (v := ?_) rfl (by kernel_rfl) (by kernel_rfl) (by kernel_rfl) (fun _ _ _ h => h) (Or.inl ⟨by rfl, ?_⟩) (by assumption) ?_
          rotate_left
          focus ((intro w hSw; (try dsimp only at hSw); go_simp) <;> (try with_reducible rfl))
          try simp only [Act.put, List.setIfInBounds_toArray, List.set_cons_zero, List.set_cons_succ]
          refine wpAnyH_take (i := 19) (oi := { dst := some 72, op := Op.binOp BinOp.eql 3 (Operand.tmp 71) (Operand.const (Value.int IntKind.i64 3)) 3, type := 4, pos := "more.go:50", after := #[{ on := 18, ground := Ground.data }, { on := 16, ground := Ground.guard }], guard := some (16, false) }) (v := ?_) rfl (by kernel_rfl) (by kernel_rfl) (by kernel_rfl) (fun _ _ _ h => h) (Or.inl ⟨by rfl, ?_⟩) (by assumption) ?_
          rotate_left
          focus ((intro w hSw; (try dsimp only at hSw); go_simp) <;> (try with_reducible rfl))
          try simp only [Act.put, List.setIfInBounds_toArray, List.set_cons_zero, List.set_cons_succ]
          refine wpAnyH_take (i := 20) (oi := { dst := some 73, op := Op.move (Operand.tmp 72), type := 4, pos := "more.go:50", after := #[{ on := 19, ground := Ground.data }, { on := 16, ground := Ground.chain }, { on := 16, ground := Ground.guard }], guard := some (16, false) }) (v := ?_) rfl (by kernel_rfl) (by kernel_rfl) (by kernel_rfl) (fun _ _ _ h => h) (Or.inl ⟨by rfl, ?_⟩) (by assumption) ?_
          rotate_left
          focus ((intro w hSw; (try dsimp only at hSw); go_simp) <;> (try with_reducible rfl))
          try simp only [Act.put, List.setIfInBounds_toArray, List.set_cons_zero, List.set_cons_succ]
          refine wpAnyH_take (i := 21) (oi := { dst := some 74, op := Op.move (Operand.tmp 9), type := 3, pos := "more.go:50", after := #[{ on := 20, ground := Ground.guard }], guard := some (20, true) }) (v := undef) rfl (by kernel_rfl) (by kernel_rfl) (by kernel_rfl) (fun _ _ _ h => h) (Or.inr ⟨by rfl, rfl⟩) (by assumption) ?_
          try simp only [Act.put, List.setIfInBounds_toArray, List.set_cons_zero, List.set_cons_succ]
          refine wpAnyH_take (i := 22) (oi := { dst := some 75, op := Op.binOp BinOp.neq 3 (Operand.tmp 74) (Operand.const (Value.int IntKind.i64 0)) 3, type := 4, pos := "more.go:50", after := #[{ on := 21, ground := Ground.data }, { on := 20, ground := Ground.guard }], guard := some (20, true) }) (v := undef) rfl (by kernel_rfl) (by kernel_rfl) (by kernel_rfl) (fun _ _ _ h => h) (Or.inr ⟨by rfl, rfl⟩) (by assumption) ?_
          try simp only [Act.put, List.setIfInBounds_toArray, List.set_cons_zero, List.set_cons_succ]
          refine wpAnyH_take (i := 23) (oi := { dst := some 76, op := Op.pick (Operand.tmp 73) (Operand.tmp 75) (Operand.const (Value.bool false)), type := 4, pos := "more.go:50", after := #[{ on := 20, ground := Ground.data }, { on := 22, ground := Ground.data }, { on := 16, ground := Ground.guard }], guard := some (16, false) }) (v := ?_) rfl (by kernel_rfl) (by kernel_rfl) (by kernel_rfl) (fun _ _ _ h => h) (Or.inl ⟨by rfl, ?_⟩) (by assumption) ?_
          rotate_left
          focus ((intro w hSw; (try dsimp only at hSw); go_simp) <;> (try with_reducible rfl))
          try simp only [Act.put, List.setIfInBounds_toArray, List.set_cons_zero, List.set_cons_succ]
          refine wpAnyH_take (i := 24) (oi := { dst := some 77, op := Op.pick (Operand.tmp 69) (Operand.const (Value.bool true)) (Operand.tmp 76), type := 4, pos := "more.go:50", after := #[{ on := 16, ground := Ground.data }, { on := 23, ground := Ground.data }], guard := none }) (v := ?_) rfl (by kernel_rfl) (by kernel_rfl) (by kernel_rfl) (fun _ _ _ h => h) (Or.inl ⟨by rfl, ?_⟩) (by assumption) ?_
          rotate_left
          focus ((intro w hSw; (try dsimp only at hSw); go_simp) <;> (try with_reducible rfl))
          try simp only [Act.put, List.setIfInBounds_toArray, List.set_cons_zero, List.set_cons_succ]
          refine wpAnyH_done (by kernel_rfl) ?_ _
          all_goals
            go_wp2_with fail
            go_meet
            exact ⟨rfl, hPn, tpn2, HKn⟩
      case rest =>
        clear hP hP0 hP1 hP2 hG hG0 hG1 hG2 HK tpx HRD HQ1
        obtain ⟨rfl, hP, tpx, HK⟩ := hcut
        have hP0 := hP.c0; have hP1 := hP.c1; have hP2 := hP.c2
        go_wp2_with fail
        have HPP := Lib.hid hP
        clear hP hP0 hP1 hP2 HV3 KN KC
        go_loopw [13] (fun s13 wr => ∃ k : Int, s13 = .int .i64 k ∧ (k = 0 ∨ k = 1 ∨ k = 2) ∧ Hs wr BhP ⟨d, v, e⟩ ∧ TP w w.heap.size a len cap wr ∧ Hid (Tock w.heap.size w wr)) (fun s13 _ => (2 - intOf s13).toNat)
        case atStart => exact ⟨0, rfl, Or.inl rfl, HPP.out, tpx, HK⟩
        case round =>
          clear HPP tpx HK
          obtain ⟨k, rfl, hk, hP, tpx, HK⟩ := hrel
          have hP0 := hP.c0; have hP1 := hP.c1; have hP2 := hP.c2
          rcases hk with rfl | rfl | rfl
          · have hls := less0 u0 u1
            cases u0 with
            | false =>
              go_wp2_with fail
              go_roundw
              case rel => exact ⟨1, rfl, by decide, hP, tpx, HK⟩
              case measure => simp [intOf]
            | true =>
              have hnn := ne0 u1
              have HFT := Lib.hid (HF0.out rfl)
              go_wp2_with fail
              have tpd := tpx.drew
              have hPd := hP.drew
              have HKd := Lib.hid HK.out.drew
              have tl : w.heap.size < wr.drew.heap.size := tpd.hi
              have pl : BhP < wr.drew.heap.size := hP.lt
              have tl5 := tpx.hi
              have pl5 := hP.lt
              go_region_held3 (fun w' => w'.cell? ⟨BhP, 0, none⟩ = some (.string d) ∧ w'.cell? ⟨BhP, 1, none⟩ = some (.int .i64 v) ∧ w'.cell? ⟨BhP, 2, none⟩ = some (.int .i64 e)) (go_keep) (first | (go_at_call 23; refine (bytes_any 16 _ _ _ _ _ _ (by omega) (by first | assumption | exact TP.alloc (by assumption) _ | exact (TP.alloc (by assumption) _).drew)).mono ?_; rintro e wb ⟨s, hs, rfl, hk, tpn⟩; have HS := Lib.hid hs; clear hs; have tl' : w.heap.size < wb.heap.size := Nat.lt_of_lt_of_le (by first | assumption | (simp only [World.size_alloc]; omega) | (simp; omega)) hk.size; have pl' : BhP < wb.heap.size := Nat.lt_of_lt_of_le (by first | assumption | (simp only [World.size_alloc]; omega) | (simp; omega)) hk.size; have k0 := hk.cell (b := BhP) (o := 0) (by assumption) (by first | assumption | (simp only [World.size_alloc]; omega) | (simp; omega)); have k1 := hk.cell (b := BhP) (o := 1) (by assumption) (by first | assumption | (simp only [World.size_alloc]; omega) | (simp; omega)); have k2 := hk.cell (b := BhP) (o := 2) (by assumption) (by first | assumption | (simp only [World.size_alloc]; omega) | (simp; omega)); have HKn : Hid (Tock w.heap.size w wb) := Lib.hid (by first | exact Tock.trans (Hid.out (p := Tock w.heap.size w _) (by assumption)) hk | exact Tock.trans (Tock.alloc (Hid.out (p := Tock w.heap.size w _) (by assumption)) _) hk | exact Tock.trans (Tock.alloc (Hid.out (p := Tock w.heap.size w _) (by assumption)) _) hk.undrew); (try ((first | (replace nb := nb.tock hk) | (have nb := NewB.tock (NewB.mk' (t := w.heap.size) (B := BhP) (by assumption) (by assumption)) hk) | (have nb := NewB.tock (NewB.mk' (t := w.heap.size) (B := BhP) (by assumption) (by assumption)) hk.undrew)); have g0 := nb.hs.c0; have g1 := nb.hs.c1; have g2 := nb.hs.c2; have gf := nb.hs.fz; have gn := nb.nB; have gn' := nb.nB')); have hPn : Hs wb BhP ⟨d, v, e⟩ := Hs.tock (by first | assumption | exact Hs.alloc (by assumption) _ | exact (Hs.alloc (by assumption) _).drew) hPt hk) | (go_at_call 24; obtain ⟨⟨Fd, Fv, Fe⟩, hw, hq, hrd⟩ := HFT.out s HS.out; have kw := fun w => fill_any ⟨d, v, e⟩ (sb false u1) s w HD.out (by have := HS.out; unfold maxLen; omega); rw [hw] at kw; simp only [Pg.val] at kw; refine (kw _).mono ?_; rintro e wf ⟨rfl, hb⟩; have hk := Tock.ofBelow (t := w.heap.size) hb (Nat.le_refl _); have HQ := Lib.hid (And.intro hq hrd); have tpn2 := TP.belowW (w0 := w) (t := w.heap.size) (a := a) (len := len) (cap := cap) (by first | assumption | exact TP.alloc (by assumption) _ | exact (TP.alloc (by assumption) _).drew) hb; clear hq hrd hw kw; have tl' : w.heap.size < wf.heap.size := Nat.lt_of_lt_of_le (by first | assumption | (simp only [World.size_alloc]; omega) | (simp; omega)) hk.size; have pl' : BhP < wf.heap.size := Nat.lt_of_lt_of_le (by first | assumption | (simp only [World.size_alloc]; omega) | (simp; omega)) hk.size; have k0 := hk.cell (b := BhP) (o := 0) (by assumption) (by first | assumption | (simp only [World.size_alloc]; omega) | (simp; omega)); have k1 := hk.cell (b := BhP) (o := 1) (by assumption) (by first | assumption | (simp only [World.size_alloc]; omega) | (simp; omega)); have k2 := hk.cell (b := BhP) (o := 2) (by assumption) (by first | assumption | (simp only [World.size_alloc]; omega) | (simp; omega)); have HKn : Hid (Tock w.heap.size w wf) := Lib.hid (by first | exact Tock.trans (Hid.out (p := Tock w.heap.size w _) (by assumption)) hk | exact Tock.trans (Tock.alloc (Hid.out (p := Tock w.heap.size w _) (by assumption)) _) hk | exact Tock.trans (Tock.alloc (Hid.out (p := Tock w.heap.size w _) (by assumption)) _) hk.undrew); (try ((first | (replace nb := nb.tock hk) | (have nb := NewB.tock (NewB.mk' (t := w.heap.size) (B := BhP) (by assumption) (by assumption)) hk) | (have nb := NewB.tock (NewB.mk' (t := w.heap.size) (B := BhP) (by assumption) (by assumption)) hk.undrew)); have g0 := nb.hs.c0; have g1 := nb.hs.c1; have g2 := nb.hs.c2; have gf := nb.hs.fz; have gn := nb.nB; have gn' := nb.nB')); have hPn : Hs wf BhP ⟨d, v, e⟩ := Hs.tock (by first | assumption | exact Hs.alloc (by assumption) _ | exact (Hs.alloc (by assumption) _).drew) hPt hk))
              all_goals
                go_wp2_with fail
                have hQS := HQ.out.1
                have hRD := HQ.out.2
                try simp only at hQS
                have HQ1 := Lib.hid hQS; have HRD := Lib.hid hRD
                clear hQS hRD
                first
                | (refine alloc_gen hPn tpn2 HKn.out Fd Fv Fe (fun W hG hPq tpq HKq => ?_)
                   have hGt : wf.heap.size ≠ w.heap.size := by have := tpn2.hi; omega
                   clear HKn hPn tpn2 tpn hPd tpd
                   generalize wf.heap.size = g at hG hGt ⊢)
                | (have nb1 : NewB w.heap.size BhP wf wb.heap.size := nb
                   refine put_gen nb1 hPn tpn2 HKn.out (Nat.le_of_lt nb1.gt) Fd Fv Fe (fun W hG hPq tpq HKq => ?_)
                   have hGt := nb1.nt
                   clear HKn hPn tpn2 tpn hPd tpd nb1 nb
                   generalize wb.heap.size = g at hG hGt ⊢)
                | (have nb1 : NewB w.heap.size BhP wf wr.heap.size := nb
                   refine put_gen nb1 hPn tpn2 HKn.out (Nat.le_of_lt nb1.gt) Fd Fv Fe (fun W hG hPq tpq HKq => ?_)
                   have hGt := nb1.nt
                   clear HKn hPn tpn2 tpn hPd tpd nb1 nb
                   generalize wr.heap.size = g at hG hGt ⊢)
                have tpd := tpq.drew
                have hPd := hPq.drew
                have HKd := Lib.hid HKq.out.drew
                have gl : g < W.drew.heap.size := hG.lt
                have e0 := hG.c0; have e1 := hG.c1; have e2 := hG.c2
                go_region_held3 (fun w' => w'.cell? ⟨g, 0, none⟩ = some (.string Fd) ∧ w'.cell? ⟨g, 1, none⟩ = some (.int .i64 Fv) ∧ w'.cell? ⟨g, 2, none⟩ = some (.int .i64 Fe)) (go_keep) (first | (go_at_call 23; refine (bytes_any m _ _ _ _ _ _ (by omega) (by assumption)).mono ?_; rintro e w' ⟨s, hs, rfl, hk, tpn⟩; have HS := Lib.hid hs; clear hs; have gl' : g < w'.heap.size := Nat.lt_of_lt_of_le (by assumption) hk.size; have q0 := hk.cell (b := g) (o := 0) hGt (by assumption); have q1 := hk.cell (b := g) (o := 1) hGt (by assumption); have q2 := hk.cell (b := g) (o := 2) hGt (by assumption); have hPn : Hs w' BhP ⟨d, v, e⟩ := Hs.tock (by assumption) hPt hk; have HKn : Hid (Tock w.heap.size w w') := Lib.hid (Tock.trans (Hid.out (p := Tock w.heap.size w _) (by assumption)) hk)) | (go_at_call 32; have kw := fun w => attempt_any ⟨Fd, Fv, Fe⟩ off s wo w (by have := HQ1.out; unfold maxLen; simp only; omega) (by have := HS.out; unfold maxLen; omega); rw [HS.out, HRD.out] at kw; simp only [Pg.val] at kw; refine (kw _).mono ?_; rintro e w' ⟨rfl, hb⟩; have hk := Tock.ofBelow (t := w.heap.size) hb (Nat.le_refl _); have tpn2 := TP.belowW (w0 := w) (t := w.heap.size) (a := a) (len := len) (cap := cap) (by assumption) hb; clear kw; have gl' : g < w'.heap.size := Nat.lt_of_lt_of_le (by assumption) hk.size; have q0 := hk.cell (b := g) (o := 0) hGt (by assumption); have q1 := hk.cell (b := g) (o := 1) hGt (by assumption); have q2 := hk.cell (b := g) (o := 2) hGt (by assumption); have hPn : Hs w' BhP ⟨d, v, e⟩ := Hs.tock (by assumption) hPt hk; have HKn : Hid (Tock w.heap.size w w') := Lib.hid (Tock.trans (Hid.out (p := Tock w.heap.size w _) (by assumption)) hk)))
                all_goals
                  go_wp2_with fail
                  go_roundw
                  case rel => exact ⟨1, rfl, by decide, hPn, tpn2, HKn⟩
                  case measure => simp [intOf]
              
          · have hls := less1 u0 u1
            cases u1 with
            | false =>
              go_wp2_with fail
              go_roundw
              case rel => exact ⟨2, rfl, by decide, hP, tpx, HK⟩
              case measure => simp [intOf]
            | true =>
              have hnn := ne1 u0
              have HFT := Lib.hid (HF1.out rfl)
              go_wp2_with fail
              have tpd := tpx.drew
              have hPd := hP.drew
              have HKd := Lib.hid HK.out.drew
              have tl : w.heap.size < wr.drew.heap.size := tpd.hi
              have pl : BhP < wr.drew.heap.size := hP.lt
              have tl5 := tpx.hi
              have pl5 := hP.lt
              go_region_held3 (fun w' => w'.cell? ⟨BhP, 0, none⟩ = some (.string d) ∧ w'.cell? ⟨BhP, 1, none⟩ = some (.int .i64 v) ∧ w'.cell? ⟨BhP, 2, none⟩ = some (.int .i64 e)) (go_keep) (first | (go_at_call 23; refine (bytes_any 16 _ _ _ _ _ _ (by omega) (by first | assumption | exact TP.alloc (by assumption) _ | exact (TP.alloc (by assumption) _).drew)).mono ?_; rintro e wb ⟨s, hs, rfl, hk, tpn⟩; have HS := Lib.hid hs; clear hs; have tl' : w.heap.size < wb.heap.size := Nat.lt_of_lt_of_le (by first | assumption | (simp only [World.size_alloc]; omega) | (simp; omega)) hk.size; have pl' : BhP < wb.heap.size := Nat.lt_of_lt_of_le (by first | assumption | (simp only [World.size_alloc]; omega) | (simp; omega)) hk.size; have k0 := hk.cell (b := BhP) (o := 0) (by assumption) (by first | assumption | (simp only [World.size_alloc]; omega) | (simp; omega)); have k1 := hk.cell (b := BhP) (o := 1) (by assumption) (by first | assumption | (simp only [World.size_alloc]; omega) | (simp; omega)); have k2 := hk.cell (b := BhP) (o := 2) (by assumption) (by first | assumption | (simp only [World.size_alloc]; omega) | (simp; omega)); have HKn : Hid (Tock w.heap.size w wb) := Lib.hid (by first | exact Tock.trans (Hid.out (p := Tock w.heap.size w _) (by assumption)) hk | exact Tock.trans (Tock.alloc (Hid.out (p := Tock w.heap.size w _) (by assumption)) _) hk | exact Tock.trans (Tock.alloc (Hid.out (p := Tock w.heap.size w _) (by assumption)) _) hk.undrew); (try ((first | (replace nb := nb.tock hk) | (have nb := NewB.tock (NewB.mk' (t := w.heap.size) (B := BhP) (by assumption) (by assumption)) hk) | (have nb := NewB.tock (NewB.mk' (t := w.heap.size) (B := BhP) (by assumption) (by assumption)) hk.undrew)); have g0 := nb.hs.c0; have g1 := nb.hs.c1; have g2 := nb.hs.c2; have gf := nb.hs.fz; have gn := nb.nB; have gn' := nb.nB')); have hPn : Hs wb BhP ⟨d, v, e⟩ := Hs.tock (by first | assumption | exact Hs.alloc (by assumption) _ | exact (Hs.alloc (by assumption) _).drew) hPt hk) | (go_at_call 24; obtain ⟨⟨Fd, Fv, Fe⟩, hw, hq, hrd⟩ := HFT.out s HS.out; have kw := fun w => fill_any ⟨d, v, e⟩ (sb u0 false) s w HD.out (by have := HS.out; unfold maxLen; omega); rw [hw] at kw; simp only [Pg.val] at kw; refine (kw _).mono ?_; rintro e wf ⟨rfl, hb⟩; have hk := Tock.ofBelow (t := w.heap.size) hb (Nat.le_refl _); have HQ := Lib.hid (And.intro hq hrd); have tpn2 := TP.belowW (w0 := w) (t := w.heap.size) (a := a) (len := len) (cap := cap) (by first | assumption | exact TP.alloc (by assumption) _ | exact (TP.alloc (by assumption) _).drew) hb; clear hq hrd hw kw; have tl' : w.heap.size < wf.heap.size := Nat.lt_of_lt_of_le (by first | assumption | (simp only [World.size_alloc]; omega) | (simp; omega)) hk.size; have pl' : BhP < wf.heap.size := Nat.lt_of_lt_of_le (by first | assumption | (simp only [World.size_alloc]; omega) | (simp; omega)) hk.size; have k0 := hk.cell (b := BhP) (o := 0) (by assumption) (by first | assumption | (simp only [World.size_alloc]; omega) | (simp; omega)); have k1 := hk.cell (b := BhP) (o := 1) (by assumption) (by first | assumption | (simp only [World.size_alloc]; omega) | (simp; omega)); have k2 := hk.cell (b := BhP) (o := 2) (by assumption) (by first | assumption | (simp only [World.size_alloc]; omega) | (simp; omega)); have HKn : Hid (Tock w.heap.size w wf) := Lib.hid (by first | exact Tock.trans (Hid.out (p := Tock w.heap.size w _) (by assumption)) hk | exact Tock.trans (Tock.alloc (Hid.out (p := Tock w.heap.size w _) (by assumption)) _) hk | exact Tock.trans (Tock.alloc (Hid.out (p := Tock w.heap.size w _) (by assumption)) _) hk.undrew); (try ((first | (replace nb := nb.tock hk) | (have nb := NewB.tock (NewB.mk' (t := w.heap.size) (B := BhP) (by assumption) (by assumption)) hk) | (have nb := NewB.tock (NewB.mk' (t := w.heap.size) (B := BhP) (by assumption) (by assumption)) hk.undrew)); have g0 := nb.hs.c0; have g1 := nb.hs.c1; have g2 := nb.hs.c2; have gf := nb.hs.fz; have gn := nb.nB; have gn' := nb.nB')); have hPn : Hs wf BhP ⟨d, v, e⟩ := Hs.tock (by first | assumption | exact Hs.alloc (by assumption) _ | exact (Hs.alloc (by assumption) _).drew) hPt hk))
              all_goals
                go_wp2_with fail
                have hQS := HQ.out.1
                have hRD := HQ.out.2
                try simp only at hQS
                have HQ1 := Lib.hid hQS; have HRD := Lib.hid hRD
                clear hQS hRD
                first
                | (refine alloc_gen hPn tpn2 HKn.out Fd Fv Fe (fun W hG hPq tpq HKq => ?_)
                   have hGt : wf.heap.size ≠ w.heap.size := by have := tpn2.hi; omega
                   clear HKn hPn tpn2 tpn hPd tpd
                   generalize wf.heap.size = g at hG hGt ⊢)
                | (have nb1 : NewB w.heap.size BhP wf wb.heap.size := nb
                   refine put_gen nb1 hPn tpn2 HKn.out (Nat.le_of_lt nb1.gt) Fd Fv Fe (fun W hG hPq tpq HKq => ?_)
                   have hGt := nb1.nt
                   clear HKn hPn tpn2 tpn hPd tpd nb1 nb
                   generalize wb.heap.size = g at hG hGt ⊢)
                | (have nb1 : NewB w.heap.size BhP wf wr.heap.size := nb
                   refine put_gen nb1 hPn tpn2 HKn.out (Nat.le_of_lt nb1.gt) Fd Fv Fe (fun W hG hPq tpq HKq => ?_)
                   have hGt := nb1.nt
                   clear HKn hPn tpn2 tpn hPd tpd nb1 nb
                   generalize wr.heap.size = g at hG hGt ⊢)
                have tpd := tpq.drew
                have hPd := hPq.drew
                have HKd := Lib.hid HKq.out.drew
                have gl : g < W.drew.heap.size := hG.lt
                have e0 := hG.c0; have e1 := hG.c1; have e2 := hG.c2
                go_region_held3 (fun w' => w'.cell? ⟨g, 0, none⟩ = some (.string Fd) ∧ w'.cell? ⟨g, 1, none⟩ = some (.int .i64 Fv) ∧ w'.cell? ⟨g, 2, none⟩ = some (.int .i64 Fe)) (go_keep) (first | (go_at_call 23; refine (bytes_any m _ _ _ _ _ _ (by omega) (by assumption)).mono ?_; rintro e w' ⟨s, hs, rfl, hk, tpn⟩; have HS := Lib.hid hs; clear hs; have gl' : g < w'.heap.size := Nat.lt_of_lt_of_le (by assumption) hk.size; have q0 := hk.cell (b := g) (o := 0) hGt (by assumption); have q1 := hk.cell (b := g) (o := 1) hGt (by assumption); have q2 := hk.cell (b := g) (o := 2) hGt (by assumption); have hPn : Hs w' BhP ⟨d, v, e⟩ := Hs.tock (by assumption) hPt hk; have HKn : Hid (Tock w.heap.size w w') := Lib.hid (Tock.trans (Hid.out (p := Tock w.heap.size w _) (by assumption)) hk)) | (go_at_call 32; have kw := fun w => attempt_any ⟨Fd, Fv, Fe⟩ off s wo w (by have := HQ1.out; unfold maxLen; simp only; omega) (by have := HS.out; unfold maxLen; omega); rw [HS.out, HRD.out] at kw; simp only [Pg.val] at kw; refine (kw _).mono ?_; rintro e w' ⟨rfl, hb⟩; have hk := Tock.ofBelow (t := w.heap.size) hb (Nat.le_refl _); have tpn2 := TP.belowW (w0 := w) (t := w.heap.size) (a := a) (len := len) (cap := cap) (by assumption) hb; clear kw; have gl' : g < w'.heap.size := Nat.lt_of_lt_of_le (by assumption) hk.size; have q0 := hk.cell (b := g) (o := 0) hGt (by assumption); have q1 := hk.cell (b := g) (o := 1) hGt (by assumption); have q2 := hk.cell (b := g) (o := 2) hGt (by assumption); have hPn : Hs w' BhP ⟨d, v, e⟩ := Hs.tock (by assumption) hPt hk; have HKn : Hid (Tock w.heap.size w w') := Lib.hid (Tock.trans (Hid.out (p := Tock w.heap.size w _) (by assumption)) hk)))
                all_goals
                  go_wp2_with fail
                  go_roundw
                  case rel => exact ⟨2, rfl, by decide, hPn, tpn2, HKn⟩
                  case measure => simp [intOf]
              
          · go_wp2_with fail
            refine (awake_any _).mono ?_; rintro e w' ⟨rfl, hb⟩
            go_wp2_with fail
            go_ret
            exact RetW.mk rfl (HK.out.base.trans (hb.mono HK.out.size))
end Go.Proofs.Ythimcidkmnobnaa
