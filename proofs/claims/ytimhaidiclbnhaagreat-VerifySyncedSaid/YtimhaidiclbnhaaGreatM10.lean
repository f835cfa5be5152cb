/- Layer 46, shared texts of this seat, part 10. -/
import Derived.Test.YtimhaidiclbnhaaGreatM06
import Derived.Test.YtimhaidiclbnhaaGreatM07
import Derived.Test.YtimhaidiclbnhaaGreatM08
/- Open. -/
set_option maxRecDepth 100000
set_option linter.unusedSimpArgs false
set_option linter.unusedVariables false
namespace Go.Proofs.YtimhaidiclbnhaaGreat.Des
open Go.ChangeShapes Go.WideShapes Go.ChangeAt Go.RowKit

set_option maxHeartbeats 8000000 in
theorem open_any (x : Dv) (p fi fl c : Int) (w : World) (h : DIn w x) (hz : DSz x) :
    Calls Tryz.prog 87 #[dVal x, .int .i64 p, .int .i64 fi, .int .i64 fl, .int .i64 c] w (OutP w x (openD x.pl p fi fl c) (fun v => .tuple #[v, .int .i64 (openF x.pl p fi fl c), .int .i64 (openE x.pl p fi fl c)])) := by
  have HX := Lib.hid h
  have HC : Hid (∀ W, Below w.heap.size w W → Calls Tryz.prog 116 #[.agg #[.slice x.oa x.o.length x.oc, .slice x.ta x.t.length x.tc]] W fun e w' => ∃ y : Dv, e = .returned (.agg #[.slice y.oa y.o.length y.oc, .slice y.ta y.t.length y.tc]) ∧ y.pl = x.pl ∧ DOwn W.heap.size w' y ∧ Below W.heap.size W w') := fun W hb => clone_any x W (h.below hb) hz
  have HPR : Hid (∀ W, Below w.heap.size w W → Calls Tryz.prog 117 #[.agg #[.slice x.oa x.o.length x.oc, .slice x.ta x.t.length x.tc], .int .i64 p] W (RetW (.int .i64 (procV x.pl p)) W)) := fun W hb => process_any x p W (h.below hb) hz
  have HP : Hid (∀ (y : Dv) w', y.pl = openD x.pl p fi fl c → DAns w x w' y → Below w.heap.size w w' → OutP w x (openD x.pl p fi fl c) (fun v => .tuple #[v, .int .i64 (openF x.pl p fi fl c), .int .i64 (openE x.pl p fi fl c)]) (.returned (.tuple #[.agg #[.slice y.oa y.o.length y.oc, .slice y.ta y.t.length y.tc], .int .i64 (openF x.pl p fi fl c), .int .i64 (openE x.pl p fi fl c)])) w') := fun y w' h1 h2 h3 => ⟨y, rfl, h1, h2, h3⟩
  have HOE : Hid (openE x.pl p fi fl c = if procV x.pl p ≠ 0 then procV x.pl p else if (fixB fi fl && curB c) = false then 2 else if fst zeroB (tabAt x.pl p) < 0 then 3 else 0) := rfl
  have HOF : Hid (openF x.pl p fi fl c = if openE x.pl p fi fl c = 0 then fst zeroB (tabAt x.pl p) else 0) := rfl
  have HOD : Hid (openD x.pl p fi fl c = if openE x.pl p fi fl c = 0 then ⟨putD x.o ⟨fi, fl, 0, c, 1⟩, setE x.pl.t p.toNat (fst zeroB (tabAt x.pl p)).toNat ((slotN x.o : Int) + 1)⟩ else x.pl) := rfl
  have HTB : Hid (procV x.pl p = 0 → 0 ≤ p ∧ p < (x.t.length : Int) ∧ tabAt x.pl p = (x.t.getD p.toNat Tb.nil).l ∧ (tabAt x.pl p).length = 16 ∧ x.o.length ≤ 128) := fun hp => by
    obtain ⟨h1, h2, h3⟩ := procV_ok hp
    rw [pl_t] at h3
    have h4 := check_tab h1 p.toNat (by rw [pl_t]; omega)
    exact ⟨h2, h3, map_getD x.t p.toNat (by omega), h4.1, (check_len h1).2.2⟩
  have hol := hz.o
  obtain ⟨W0, hW0⟩ : ∃ W0, W0 = (w.alloc (Obj.cells #[.slice x.oa x.o.length x.oc, .slice x.ta x.t.length x.tc] 83)).alloc (Obj.cells #[.slice none 0 0, .slice none 0 0] 83) := ⟨_, rfl⟩
  have hb0 : Below w.heap.size w W0 := by rw [hW0]; exact ((Below.refl _ w).alloc (Nat.le_refl _) _).alloc (by simp) _
  have hs0 : W0.heap.size = w.heap.size + 2 := by rw [hW0]; simp
  have hr0 : At W0 (w.heap.size + 1) [.slice none 0 0, .slice none 0 0] := by rw [hW0]; exact (At.new (w.alloc (Obj.cells #[.slice x.oa x.o.length x.oc, .slice x.ta x.t.length x.tc] 83)) [.slice none 0 0, .slice none 0 0] 83).cast (by simp)
  have hp0 : W0.cell? ⟨w.heap.size, 0, none⟩ = some (.slice x.oa x.o.length x.oc) := by rw [hW0]; simp
  have hp1 : W0.cell? ⟨w.heap.size, 1, none⟩ = some (.slice x.ta x.t.length x.tc) := by rw [hW0]; simp
  have HB0 := Lib.hid hb0
  have HS0 := Lib.hid hs0
  have HR0 := Lib.hid hr0
  have HP0 := Lib.hid hp0
  have HP1 := Lib.hid hp1
  clear hb0 hs0 hr0 h
  generalize OutP w x (openD x.pl p fi fl c) (fun v => .tuple #[v, .int .i64 (openF x.pl p fi fl c), .int .i64 (openE x.pl p fi fl c)]) = Post at *
  generalize openD x.pl p fi fl c = od at *
  generalize openF x.pl p fi fl c = of at *
  generalize openE x.pl p fi fl c = oe at *
  generalize procV x.pl p = pv at *
  generalize tabAt x.pl p = T at *
  have HFX := Lib.hid (fun W => fixed_any fi fl W)
  have HCU := Lib.hid (fun W => cursor_any c W)
  unfold dVal
  go_enter Tryz.func87, Tryz.ntmps87
  go_wp2_with fail
  rw [← hW0]
  refine (HC.out W0 HB0.out).mono ?_
  rintro e w1 ⟨y, rfl, hpl, hown, hb⟩
  have HFR : Hid (Fr w x (w1.alloc (Obj.cells #[.slice y.oa y.o.length y.oc, .slice y.ta y.t.length y.tc] 83)) (w.heap.size + 2) (w.heap.size + 1) w1.heap.size y) := Fr.start HP0.out HP1.out HR0.out HB0.out (Nat.lt_succ_self _) (Nat.lt_succ_self _) (by rw [HS0.out]; exact Nat.le_refl _) hown hb
  have HPL := Lib.hid hpl
  have hk0 : w1.cell? ⟨w.heap.size, 0, none⟩ = some (.slice x.oa x.o.length x.oc) := (hb.cell (p := ⟨w.heap.size, 0, none⟩) (by rw [HS0.out]; simp)).trans hp0
  have hk1 : w1.cell? ⟨w.heap.size, 1, none⟩ = some (.slice x.ta x.t.length x.tc) := (hb.cell (p := ⟨w.heap.size, 1, none⟩) (by rw [HS0.out]; simp)).trans hp1
  have hl1 : w.heap.size < w1.heap.size := by have := hb.size; rw [HS0.out] at this; omega
  have hl2 : w.heap.size + 2 ≤ w1.heap.size := by have := hb.size; rw [HS0.out] at this; omega
  obtain ⟨O, hO⟩ : ∃ O, O = w1.heap.size := ⟨_, rfl⟩
  clear hpl hown hb hW0 HC hp0 hp1 HB0 HS0 HR0 HP0 HP1
  go_wp2_with fail
  generalize w1.alloc (Obj.cells #[.slice y.oa y.o.length y.oc, .slice y.ta y.t.length y.tc] 83) = w2 at *
  rw [← hO] at *
  clear hO hk0 hk1
  refine (HPR.out w2 HFR.out.bel).mono ?_
  rintro e w3 ⟨rfl, hb⟩
  replace HFR := Lib.hid (HFR.out.below hb)
  clear hb HPR
  by_cases hpv : pv = 0
  · subst hpv
    obtain ⟨q0, q1, q2, q3, q4⟩ := HTB.out rfl
    obtain ⟨k, rfl⟩ : ∃ k : Nat, p = (k : Int) := ⟨p.toNat, by omega⟩
    rw [Int.toNat_natCast] at q2
    have Q2 := Lib.hid q2
    have Q3 := Lib.hid q3
    clear q2 q3
    go_wp2_with fail
    refine (HFX.out w3).mono ?_
    rintro e w4 ⟨rfl, hb⟩
    replace HFR := Lib.hid (HFR.out.below hb)
    clear hb
    generalize fixB fi fl = b1 at *
    cases b1 with
    | false =>
      have HOE2 : Hid (oe = 2) := by have := HOE.out; rw [if_neg (by simp), if_pos (by rw [Bool.false_and])] at this; exact this
      have HOF2 : Hid (of = 0) := by have := HOF.out; rw [if_neg (by rw [HOE2.out]; decide)] at this; exact this
      have HOD2 : Hid (od = x.pl) := by have := HOD.out; rw [if_neg (by rw [HOE2.out]; decide)] at this; exact this
      obtain ⟨hA5, hD5, hB5⟩ := HFR.out.fin
      have e0 := hA5.cell 0 _ rfl
      have e1 := hA5.cell 1 _ rfl
      have hpo := HP.out y _ (by rw [HOD2.out]; exact HPL.out) hD5 hB5
      rw [HOE2.out, HOF2.out] at hpo
      have HPo := Lib.hid hpo
      obtain ⟨r0, r1, r2, r3, r4⟩ := HFR.out.r.two
      obtain ⟨x0, x1, x2, x3, x4⟩ := HFR.out.wk.box.cc
      clear hA5 hD5 hB5 hpo
      go_wp2_with fail
      generalize ((w4.setCell ⟨w.heap.size + 1, 0, none⟩ (.slice y.oa y.o.length y.oc)).setCell ⟨w.heap.size + 1, 1, none⟩ (.slice y.ta y.t.length y.tc)) = w9 at *
      exact bodyPost_ret (v := .tuple #[.agg #[.slice y.oa y.o.length y.oc, .slice y.ta y.t.length y.tc], .int .i64 0, .int .i64 2]) (by simp [results, Tryz.results87, go_sem, e0, e1]) rfl HPo.out
    | true =>
      rw [Bool.true_and] at HOE
      go_wp2_with fail
      refine (HCU.out w4).mono ?_
      rintro e w5 ⟨rfl, hb⟩
      replace HFR := Lib.hid (HFR.out.below hb)
      clear hb
      generalize curB c = b2 at *
      cases b2 with
      | false =>
        have HOE2 : Hid (oe = 2) := by have := HOE.out; rw [if_neg (by simp), if_pos rfl] at this; exact this
        have HOF2 : Hid (of = 0) := by have := HOF.out; rw [if_neg (by rw [HOE2.out]; decide)] at this; exact this
        have HOD2 : Hid (od = x.pl) := by have := HOD.out; rw [if_neg (by rw [HOE2.out]; decide)] at this; exact this
        obtain ⟨hA5, hD5, hB5⟩ := HFR.out.fin
        have e0 := hA5.cell 0 _ rfl
        have e1 := hA5.cell 1 _ rfl
        have hpo := HP.out y _ (by rw [HOD2.out]; exact HPL.out) hD5 hB5
        rw [HOE2.out, HOF2.out] at hpo
        have HPo := Lib.hid hpo
        obtain ⟨r0, r1, r2, r3, r4⟩ := HFR.out.r.two
        obtain ⟨x0, x1, x2, x3, x4⟩ := HFR.out.wk.box.cc
        clear hA5 hD5 hB5 hpo
        go_wp2_with fail
        generalize ((w5.setCell ⟨w.heap.size + 1, 0, none⟩ (.slice y.oa y.o.length y.oc)).setCell ⟨w.heap.size + 1, 1, none⟩ (.slice y.ta y.t.length y.tc)) = w9 at *
        exact bodyPost_ret (v := .tuple #[.agg #[.slice y.oa y.o.length y.oc, .slice y.ta y.t.length y.tc], .int .i64 0, .int .i64 2]) (by simp [results, Tryz.results87, go_sem, e0, e1]) rfl HPo.out
      | true =>
        rw [if_neg (by simp), if_neg (by simp)] at HOE
        have hyt : y.t.length = x.t.length := by have := congrArg (fun d => d.t.length) HPL.out; simpa [Dv.pl] using this
        have hyo : y.o = x.o := congrArg De.o HPL.out
        have HPT : Hid (y.t.map Tb.l = x.pl.t) := congrArg De.t HPL.out
        have hyT : (y.t.getD k Tb.nil).l = T := by rw [← map_getD y.t k (by omega), HPT.out, Q2.out]; exact map_getD x.t k (by omega)
        have HYT := Lib.hid hyt
        have HYO := Lib.hid hyo
        have HYTT := Lib.hid hyT
        have hkt : k < y.t.length := by omega
        have q3 := Q3.out
        obtain ⟨g, g2, a1, a2, a3, a4, a5, a6, a7, _, _, _, _, _⟩ := HFR.out.wk.own.tabAt k (by omega) (by rw [hyT, q3]; omega)
        have hrow := HFR.out.wk.own.in.tab k (by omega)
        rw [hyT] at hrow a5 a6
        have hix := index_any _ _ _ w5 hrow (by omega)
        rw [a4] at hix
        generalize (y.t.getD k Tb.nil).c = cT at hix a5 a6 a7
        have HIX := Lib.hid hix
        obtain ⟨x0, x1, x2, x3, x4⟩ := HFR.out.wk.box.cc
        have q1y : (k : Int) < (y.t.length : Int) := by omega
        clear hix hrow hyt hyo hyT q3 a4
        rw [a1] at x1
        go_wp2_with fail
        refine HIX.out.mono ?_
        rintro e w6 ⟨rfl, hb⟩
        replace HFR := Lib.hid (HFR.out.below hb)
        clear hb HIX x0 x1 x2 x3 x4 a1 a2 a3 a5 a6 a7
        rcases fst_cases zeroB T 0 with ⟨hf, _⟩ | ⟨j, hf, hj, _, _⟩
        · rw [hf] at HOE HOF HOD ⊢
          have HOE2 : Hid (oe = 3) := by have := HOE.out; rw [if_pos (by decide)] at this; exact this
          have HOF2 : Hid (of = 0) := by have := HOF.out; rw [if_neg (by rw [HOE2.out]; decide)] at this; exact this
          have HOD2 : Hid (od = x.pl) := by have := HOD.out; rw [if_neg (by rw [HOE2.out]; decide)] at this; exact this
          obtain ⟨hA5, hD5, hB5⟩ := HFR.out.fin
          have e0 := hA5.cell 0 _ rfl
          have e1 := hA5.cell 1 _ rfl
          have hpo := HP.out y _ (by rw [HOD2.out]; exact HPL.out) hD5 hB5
          rw [HOE2.out, HOF2.out] at hpo
          have HPo := Lib.hid hpo
          obtain ⟨r0, r1, r2, r3, r4⟩ := HFR.out.r.two
          obtain ⟨x0, x1, x2, x3, x4⟩ := HFR.out.wk.box.cc
          clear hA5 hD5 hB5 hpo
          go_wp2_with fail
          generalize ((w6.setCell ⟨w.heap.size + 1, 0, none⟩ (.slice y.oa y.o.length y.oc)).setCell ⟨w.heap.size + 1, 1, none⟩ (.slice y.ta y.t.length y.tc)) = w9 at *
          exact bodyPost_ret (v := .tuple #[.agg #[.slice y.oa y.o.length y.oc, .slice y.ta y.t.length y.tc], .int .i64 0, .int .i64 3]) (by simp [results, Tryz.results87, go_sem, e0, e1]) rfl HPo.out
        · rw [hf] at HOE HOF HOD ⊢
          have HOE2 : Hid (oe = 0) := by have := HOE.out; rw [if_neg (by omega)] at this; exact this
          have HJ16 : Hid (j < 16) := by have := Q3.out; rw [Hid]; omega
          have HOF2 : Hid (of = j) := by have := HOF.out; rw [if_pos HOE2.out] at this; exact this
          have hod2 := HOD.out
          rw [if_pos HOE2.out, Int.toNat_natCast, Int.toNat_natCast, ← HYO.out] at hod2
          have HID := Lib.hid (indexD_any y.oa y.oc y.o w6 HFR.out.wk.own.in.o (by rw [HYO.out]; exact hol))
          obtain ⟨x0, x1, x2, x3, x4⟩ := HFR.out.wk.box.cc
          have hj16 : (j : Int) < 16 := by have := Q3.out; omega
          clear HOE HOF HOD
          go_wp2_with fail
          refine HID.out.mono ?_
          rintro e w7 ⟨rfl, hb⟩
          replace HFR := Lib.hid (HFR.out.below hb)
          clear hb HID x0 x1 x2 x3 x4
          have hyol : y.o.length ≤ 128 := by rw [HYO.out]; exact q4
          unfold putD slotN at hod2
          rcases fst_cases noneB y.o Dn.zero with ⟨hn, _⟩ | ⟨m, hn, hm, _, _⟩
          · rw [hn, if_pos (by decide), if_pos (by decide)] at hod2
            have HOD2 := Lib.hid hod2
            rw [hn]
            clear hod2
            obtain ⟨W4, hW4⟩ : ∃ W4, W4 = w7.alloc (Obj.cells #[.int .i64 0, .int .i64 0, .int .i64 0, .int .i64 0, .int .i64 0] 126) := ⟨_, rfl⟩
            have hb4 : Below w7.heap.size w7 W4 := by rw [hW4]; exact (Below.refl _ _).alloc (Nat.le_refl _) _
            have hv4 : W4.rangeAt w7.heap.size 0 Dn.zero.cells := by rw [hW4]; exact (At.new w7 Dn.zero.cells 126).r
            have HF4 := HFR.out.below hb4
            have hle4 : w.heap.size + 2 ≤ W4.heap.size := by have := HF4.wk.lo; have := HF4.wk.box.at'.hi; omega
            obtain ⟨aN, cN, wN, hrun, hown, hbox, hbN⟩ := append_desc W4 (w.heap.size + 2) O y Dn.zero w7.heap.size HF4.wk hv4 (by omega) hle4
            have HAP := Lib.hid hrun
            obtain ⟨wA, hwA⟩ : ∃ wA, wA = wN.setCell ⟨O, 0, none⟩ (.slice aN (y.o.length + 1) cN) := ⟨_, rfl⟩
            have hwkA : Wk (w.heap.size + 2) wA O ⟨aN, cN, y.o ++ [Dn.zero], y.ta, y.tc, y.t⟩ := by rw [hwA]; exact Wk.boxO hown hbox HFR.out.wk.lo (by simp)
            have hbelA : Below (w.heap.size + 2) W4 wA := by rw [hwA]; exact hbN.setCell (p := ⟨O, 0, none⟩) HFR.out.wk.lo _
            have HFA := Lib.hid (HF4.turn hbelA hwkA)
            obtain ⟨x0, x1, x2, x3, x4⟩ := HFR.out.wk.box.cc
            obtain ⟨z0, z1, z2, z3, z4⟩ := hbox.cc
            clear HFR
            have HFR := HFA
            clear HFA hrun hown hbox hbN hwkA hbelA HF4 hb4 hv4
            have hN : y.o.length < (y.o ++ [Dn.zero]).length := by simp
            have hfin0 : (y.o ++ [Dn.zero]).set y.o.length ⟨fi, fl, 0, c, 1⟩ = y.o ++ [⟨fi, fl, 0, c, 1⟩] := by
              rw [List.set_append_right _ _ (Nat.le_refl _), Nat.sub_self]; rfl
            have HFIN := Lib.hid hfin0
            clear hfin0
            obtain ⟨g3, b1, b2, b3, b4, b5, b6, b7⟩ := HFR.out.wk.own.descAt y.o.length hN
            simp only at b1 b2 b3 b4
            have hth := there5 b4 b5
            rw [b1] at HAP hwA
            rw [List.length_append] at b2
            simp only [List.length_singleton] at b2
            have hOA : aN = some ⟨g3, 0, none⟩ := b1
            go_wp2_with (first | (at_builtin; rw [← hW4]; clear hW4; refine Lib.wpList_append_run _ rfl _ _ _ _ rfl _ _ rfl rfl _ _ HAP.out ?_) | (with_reducible refine hold_store 126 rfl ?_))
            rw [← hwA]
            clear hwA HAP z0 z1 z2 z3 z4 x0 x1 x2 x3 x4
            refine store_ato (y.o.length * 5) (Dn.cells ⟨fi, fl, 0, c, 1⟩) hth rfl size34 (by simp [Dn.cells, Value.oneCell']) rfl rfl rfl rfl ?_
            obtain ⟨b6, b7⟩ := (show w.heap.size + 2 ≤ g3 ∧ g3 < wA.heap.size from ⟨b6, b7⟩)
            have hwk8 := HFR.out.wk.putO b1 y.o.length hN ⟨fi, fl, 0, c, 1⟩
            intro w8 hw8
            rw [← hw8] at hwk8
            have hbel8 : Below (w.heap.size + 2) wA w8 := by rw [hw8]; exact below_cells b6 _ _ (Below.refl _ _)
            have HF8 := Lib.hid (HFR.out.turn hbel8 hwk8)
            clear hw8 hwk8 hbel8 b1 b2 b3 b4 b5 b6 b7
            obtain ⟨g4, g5, c1, c2, c3, c4, c5, c6, c7, c8, c9, c10, c11, c12⟩ := HF8.out.wk.own.tabAt k hkt (by show 0 < (y.t.getD k Tb.nil).l.length; rw [HYTT.out, Q3.out]; omega)
            simp only at c1 c2 c3 c4 c5 c6 c7 c8
            have hyT := HYTT.out
            have q3 := Q3.out
            rw [hyT] at c5 c6 c8
            have c8j := c8 j (by omega)
            generalize hcT : (y.t.getD k Tb.nil).c = cT2 at c5 c6 c7
            generalize T.getD j 0 = zj at c8j
            clear hcT
            have c9j := c9 j
            have nO := HF8.out.wk.neT k hkt c4
            have nR : w.heap.size + 1 ≠ g5 := by omega
            have HF9 := Lib.hid (HF8.out.turn ((Below.refl (w.heap.size + 2) w8).setCell (p := ⟨g5, j, none⟩) c10 (.int .i64 ((y.o.length : Int) + 1))) (HF8.out.wk.putT k hkt c4 j ((y.o.length : Int) + 1)))
            obtain ⟨hA5, hD5, hB5⟩ := HF9.out.fin
            simp only [tset_len, List.length_set, List.length_append, List.length_singleton, c1, hOA] at hA5 hD5 hB5
            have e0 := hA5.cell 0 _ rfl
            have e1 := hA5.cell 1 _ rfl
            have hpo := HP.out _ _ (by rw [HOD2.out]; exact De.ext' HFIN.out (by show (tset y.t k j _).map Tb.l = _; rw [tset_pl, HPT.out])) hD5 hB5
            rw [HOE2.out, HOF2.out] at hpo
            simp only [tset_len, List.length_set, List.length_append, List.length_singleton] at hpo
            have HPo := Lib.hid hpo
            obtain ⟨r0, r1, r2, r3, r4⟩ := HF8.out.r.two
            obtain ⟨x0, x1, x2, x3, x4⟩ := HF8.out.wk.box.cc
            simp only [List.length_set, List.length_append, List.length_singleton, c1, hOA] at x0 x1
            have hNb : (y.o.length : Int) ≤ 20000 := by omega
            clear hA5 hD5 hB5 hpo HFR c8 c9 hyT q3 c4 c1 hOA
            go_wp2_with fail
            generalize ((w8.setCell ⟨g5, j, none⟩ (.int .i64 ((y.o.length : Int) + 1))).setCell ⟨w.heap.size + 1, 0, none⟩ (.slice (some ⟨g3, 0, none⟩) (y.o.length + 1) cN)).setCell ⟨w.heap.size + 1, 1, none⟩ (.slice (some ⟨g4, 0, none⟩) y.t.length y.tc) = w9 at *
            exact bodyPost_ret (v := .tuple #[.agg #[.slice (some ⟨g3, 0, none⟩) (y.o.length + 1) cN, .slice (some ⟨g4, 0, none⟩) y.t.length y.tc], .int .i64 j, .int .i64 0]) (by simp [results, Tryz.results87, go_sem, e0, e1]) rfl HPo.out
          · have hm0 : ¬ ((m : Int) < 0) := by omega
            rw [hn, if_neg hm0, if_neg hm0, Int.toNat_natCast] at hod2
            have HOD2 := Lib.hid hod2
            rw [hn]
            clear hod2 hm0
            obtain ⟨wA, hwA⟩ : ∃ wA, wA = w7 := ⟨_, rfl⟩
            rw [← hwA] at HFR ⊢
            clear hwA
            have hN : m < y.o.length := hm
            obtain ⟨g3, b1, b2, b3, b4, b5, b6, b7⟩ := HFR.out.wk.own.descAt m hN
            have hth := there5 b4 b5
            obtain ⟨x0, x1, x2, x3, x4⟩ := HFR.out.wk.box.cc
            have hOA : y.oa = some ⟨g3, 0, none⟩ := b1
            have hm1 : (0 : Int) ≤ (m : Int) := by omega
            rw [b1] at x0
            have hmI : (m : Int) < (y.o.length : Int) := by omega
            go_wp2_with (with_reducible refine hold_store 126 rfl ?_)
            clear x0 x1 x2 x3 x4
            refine store_ato (m * 5) (Dn.cells ⟨fi, fl, 0, c, 1⟩) hth rfl size34 (by simp [Dn.cells, Value.oneCell']) rfl rfl rfl rfl ?_
            obtain ⟨b6, b7⟩ := (show w.heap.size + 2 ≤ g3 ∧ g3 < wA.heap.size from ⟨b6, b7⟩)
            have hwk8 := HFR.out.wk.putO b1 m hN ⟨fi, fl, 0, c, 1⟩
            intro w8 hw8
            rw [← hw8] at hwk8
            have hbel8 : Below (w.heap.size + 2) wA w8 := by rw [hw8]; exact below_cells b6 _ _ (Below.refl _ _)
            have HF8 := Lib.hid (HFR.out.turn hbel8 hwk8)
            clear hw8 hwk8 hbel8 b1 b2 b3 b4 b5 b6 b7
            obtain ⟨g4, g5, c1, c2, c3, c4, c5, c6, c7, c8, c9, c10, c11, c12⟩ := HF8.out.wk.own.tabAt k hkt (by show 0 < (y.t.getD k Tb.nil).l.length; rw [HYTT.out, Q3.out]; omega)
            simp only at c1 c2 c3 c4 c5 c6 c7 c8
            have hyT := HYTT.out
            have q3 := Q3.out
            rw [hyT] at c5 c6 c8
            have c8j := c8 j (by omega)
            generalize hcT : (y.t.getD k Tb.nil).c = cT2 at c5 c6 c7
            generalize T.getD j 0 = zj at c8j
            clear hcT
            have c9j := c9 j
            have nO := HF8.out.wk.neT k hkt c4
            have nR : w.heap.size + 1 ≠ g5 := by omega
            have HF9 := Lib.hid (HF8.out.turn ((Below.refl (w.heap.size + 2) w8).setCell (p := ⟨g5, j, none⟩) c10 (.int .i64 ((m : Int) + 1))) (HF8.out.wk.putT k hkt c4 j ((m : Int) + 1)))
            obtain ⟨hA5, hD5, hB5⟩ := HF9.out.fin
            simp only [tset_len, List.length_set, List.length_append, List.length_singleton, c1, hOA] at hA5 hD5 hB5
            have e0 := hA5.cell 0 _ rfl
            have e1 := hA5.cell 1 _ rfl
            have hpo := HP.out _ _ (by rw [HOD2.out]; exact De.ext' rfl (by show (tset y.t k j _).map Tb.l = _; rw [tset_pl, HPT.out])) hD5 hB5
            rw [HOE2.out, HOF2.out] at hpo
            simp only [tset_len, List.length_set, List.length_append, List.length_singleton] at hpo
            have HPo := Lib.hid hpo
            obtain ⟨r0, r1, r2, r3, r4⟩ := HF8.out.r.two
            obtain ⟨x0, x1, x2, x3, x4⟩ := HF8.out.wk.box.cc
            simp only [List.length_set, List.length_append, List.length_singleton, c1, hOA] at x0 x1
            have hNb : (m : Int) ≤ 20000 := by omega
            clear hA5 hD5 hB5 hpo HFR c8 c9 hyT q3 c4 c1 hOA
            go_wp2_with fail
            generalize ((w8.setCell ⟨g5, j, none⟩ (.int .i64 ((m : Int) + 1))).setCell ⟨w.heap.size + 1, 0, none⟩ (.slice (some ⟨g3, 0, none⟩) y.o.length y.oc)).setCell ⟨w.heap.size + 1, 1, none⟩ (.slice (some ⟨g4, 0, none⟩) y.t.length y.tc) = w9 at *
            exact bodyPost_ret (v := .tuple #[.agg #[.slice (some ⟨g3, 0, none⟩) y.o.length y.oc, .slice (some ⟨g4, 0, none⟩) y.t.length y.tc], .int .i64 j, .int .i64 0]) (by simp [results, Tryz.results87, go_sem, e0, e1]) rfl HPo.out
  · have HOE2 : Hid (oe = pv) := by have := HOE.out; rw [if_pos hpv] at this; exact this
    have HOF2 : Hid (of = 0) := by have := HOF.out; rw [if_neg (by rw [HOE2.out]; exact hpv)] at this; exact this
    have HOD2 : Hid (od = x.pl) := by have := HOD.out; rw [if_neg (by rw [HOE2.out]; exact hpv)] at this; exact this
    obtain ⟨hA5, hD5, hB5⟩ := HFR.out.fin
    have e0 := hA5.cell 0 _ rfl
    have e1 := hA5.cell 1 _ rfl
    have hpo := HP.out y _ (by rw [HOD2.out]; exact HPL.out) hD5 hB5
    rw [HOE2.out, HOF2.out] at hpo
    have HPo := Lib.hid hpo
    obtain ⟨r0, r1, r2, r3, r4⟩ := HFR.out.r.two
    obtain ⟨x0, x1, x2, x3, x4⟩ := HFR.out.wk.box.cc
    clear hA5 hD5 hB5 hpo
    go_wp2_with fail
    generalize ((w3.setCell ⟨w.heap.size + 1, 0, none⟩ (.slice y.oa y.o.length y.oc)).setCell ⟨w.heap.size + 1, 1, none⟩ (.slice y.ta y.t.length y.tc)) = w9 at *
    exact bodyPost_ret (v := .tuple #[.agg #[.slice y.oa y.o.length y.oc, .slice y.ta y.t.length y.tc], .int .i64 0, .int .i64 pv]) (by simp [results, Tryz.results87, go_sem, e0, e1]) rfl HPo.out
end Go.Proofs.YtimhaidiclbnhaaGreat.Des
/- Dup: the document's. -/
set_option maxRecDepth 100000
set_option linter.unusedSimpArgs false
set_option linter.unusedVariables false
namespace Go.Proofs.YtimhaidiclbnhaaGreat.Des
open Go.ChangeShapes Go.WideShapes Go.ChangeAt Go.RowKit


end Go.Proofs.YtimhaidiclbnhaaGreat.Des
/- Open: the document's. -/
set_option maxRecDepth 100000
set_option linter.unusedSimpArgs false
set_option linter.unusedVariables false
namespace Go.Proofs.YtimhaidiclbnhaaGreat.Des
open Go.ChangeShapes Go.WideShapes Go.ChangeAt Go.RowKit

end Go.Proofs.YtimhaidiclbnhaaGreat.Des
/- Close: the document's. -/
set_option maxRecDepth 100000
set_option linter.unusedSimpArgs false
set_option linter.unusedVariables false
namespace Go.Proofs.YtimhaidiclbnhaaGreat.Des
open Go.ChangeShapes Go.WideShapes Go.ChangeAt Go.RowKit


end Go.Proofs.YtimhaidiclbnhaaGreat.Des
