/- Update, the document's too. -/
import Derived.Test.YtflcbefomjlgmaaPv
import Derived.Test.YtflcbefomjlgmaaCr
import Derived.Test.YtflcbefomjlgmaaLk
set_option linter.unusedSimpArgs false
set_option linter.unusedVariables false
namespace Go.Proofs.Ytflcbefomjlgmaa
open Go.ChangeShapes Go.WideShapes Go.ChangeAt Go.RowKit

set_option maxHeartbeats 8000000 in
theorem upd_any (x : Dv) (n fi fl f c rf : Int) (w : World) (h : DIn w x) (hz : DSz x) :
    Calls Try.prog 21 #[dVal x, .int .i64 n, .agg #[.int .i64 fi, .int .i64 fl, .int .i64 f, .int .i64 c, .int .i64 rf]] w (OutP w x (updD x.pl n f c) (fun v => .tuple #[v, .int .i64 (updE x.pl n f c)])) := by
  have HX := Lib.hid h
  have HC : Hid (∀ W, Below w.heap.size w W → Calls Try.prog 31 #[.agg #[.slice x.oa x.o.length x.oc, .slice x.ta x.t.length x.tc]] W fun e w' => ∃ y : Dv, e = .returned (.agg #[.slice y.oa y.o.length y.oc, .slice y.ta y.t.length y.tc]) ∧ y.pl = x.pl ∧ DOwn W.heap.size w' y ∧ Below W.heap.size W w') := fun W hb => clone_any x W (h.below hb) hz
  have HCK : Hid (∀ W, Below w.heap.size w W → Calls Try.prog 23 #[.agg #[.slice x.oa x.o.length x.oc, .slice x.ta x.t.length x.tc]] W (RetW (.bool (checkV x.pl)) W)) := fun W hb => check_any' x W (h.below hb) hz.o hz.t
  have HMV : Hid (∀ W, Calls Try.prog 43 #[.agg #[.int .i64 fi, .int .i64 fl, .int .i64 f, .int .i64 c, .int .i64 rf]] W (RetW (.bool (movB f c)) W)) := fun W => moving_any ⟨fi, fl, f, c, rf⟩ W
  have HP : Hid (∀ (y : Dv) w', y.pl = updD x.pl n f c → DAns w x w' y → Below w.heap.size w w' → OutP w x (updD x.pl n f c) (fun v => .tuple #[v, .int .i64 (updE x.pl n f c)]) (.returned (.tuple #[.agg #[.slice y.oa y.o.length y.oc, .slice y.ta y.t.length y.tc], .int .i64 (updE x.pl n f c)])) w') := fun y w' h1 h2 h3 => ⟨y, rfl, h1, h2, h3⟩
  have HOE : Hid (updE x.pl n f c = if checkV x.pl = false then 1 else if n < 0 ∨ (x.o.length : Int) ≤ n ∨ (x.o.getD n.toNat Dn.zero).rf = 0 then 4 else if movB f c = false then 2 else 0) := rfl
  have HOD : Hid (updD x.pl n f c = if updE x.pl n f c = 0 then ⟨x.o.set n.toNat ⟨(x.o.getD n.toNat Dn.zero).fi, (x.o.getD n.toNat Dn.zero).fl, f, c, (x.o.getD n.toNat Dn.zero).rf⟩, x.pl.t⟩ else x.pl) := rfl
  have HDS : Hid (∀ W, Below w.heap.size w W → ∀ k, k < x.o.length → ∃ g of, x.oa = some ⟨g, of, none⟩ ∧ (x.o.length : Int) ≤ x.oc ∧ (x.oc : Int) ≤ 9223372036854775807 ∧ DCel W g (of + k * 5) (x.o.getD k Dn.zero)) := h.descs
  have hol := hz.o
  obtain ⟨W0, hW0⟩ : ∃ W0, W0 = ((w.alloc (Obj.cells #[.slice x.oa x.o.length x.oc, .slice x.ta x.t.length x.tc] 29)).alloc (Obj.cells #[.int .i64 fi, .int .i64 fl, .int .i64 f, .int .i64 c, .int .i64 rf] 34)).alloc (Obj.cells #[.slice none 0 0, .slice none 0 0] 29) := ⟨_, rfl⟩
  have hb0 : Below w.heap.size w W0 := by rw [hW0]; exact (((Below.refl _ w).alloc (Nat.le_refl _) _).alloc (by simp) _).alloc (by simp; omega) _
  have hs0 : W0.heap.size = w.heap.size + 3 := by rw [hW0]; simp
  have hr0 : At W0 (w.heap.size + 2) [.slice none 0 0, .slice none 0 0] := by rw [hW0]; exact (At.new ((w.alloc (Obj.cells #[.slice x.oa x.o.length x.oc, .slice x.ta x.t.length x.tc] 29)).alloc (Obj.cells #[.int .i64 fi, .int .i64 fl, .int .i64 f, .int .i64 c, .int .i64 rf] 34)) [.slice none 0 0, .slice none 0 0] 29).cast (by simp)
  have hp0 : W0.cell? ⟨w.heap.size, 0, none⟩ = some (.slice x.oa x.o.length x.oc) := by rw [hW0, World.cell?_alloc_lt _ _ _ (by rw [alloc_size, alloc_size]; show w.heap.size < _; omega), World.cell?_alloc_lt _ _ _ (by rw [alloc_size]; show w.heap.size < _; omega)]; simp
  have hp1 : W0.cell? ⟨w.heap.size, 1, none⟩ = some (.slice x.ta x.t.length x.tc) := by rw [hW0, World.cell?_alloc_lt _ _ _ (by rw [alloc_size, alloc_size]; show w.heap.size < _; omega), World.cell?_alloc_lt _ _ _ (by rw [alloc_size]; show w.heap.size < _; omega)]; simp
  have hx0 : DCel W0 (w.heap.size + 1) 0 ⟨fi, fl, f, c, rf⟩ := by
    have h1 := DCel.new (w.alloc (Obj.cells #[.slice x.oa x.o.length x.oc, .slice x.ta x.t.length x.tc] 29)) ⟨fi, fl, f, c, rf⟩
    rw [alloc_size] at h1
    rw [hW0]
    exact h1.below ((Below.refl _ _).alloc (Nat.le_refl _) _) (by simp)
  have HXC : Hid (∀ W, Below W0.heap.size W0 W → DCel W (w.heap.size + 1) 0 ⟨fi, fl, f, c, rf⟩) := fun W hb => hx0.below hb (by rw [hs0]; omega)
  have HB0 := Lib.hid hb0
  have HS0 := Lib.hid hs0
  have HR0 := Lib.hid hr0
  have HP0 := Lib.hid hp0
  have HP1 := Lib.hid hp1
  clear hb0 hs0 hr0 h hx0
  generalize OutP w x (updD x.pl n f c) (fun v => .tuple #[v, .int .i64 (updE x.pl n f c)]) = Post at *
  generalize updD x.pl n f c = od at *
  generalize updE x.pl n f c = oe at *
  generalize checkV x.pl = cv at *
  unfold dVal
  go_enter Try.func21, Try.ntmps21
  go_wp2_with fail
  rw [← hW0]
  refine (HC.out W0 HB0.out).mono ?_
  rintro e w1 ⟨y, rfl, hpl, hown, hb⟩
  have HFR : Hid (Fr w x (w1.alloc (Obj.cells #[.slice y.oa y.o.length y.oc, .slice y.ta y.t.length y.tc] 29)) (w.heap.size + 3) (w.heap.size + 2) w1.heap.size y) := Fr.start HP0.out HP1.out HR0.out HB0.out (by omega) (by omega) (by rw [HS0.out]; exact Nat.le_refl _) hown hb
  have HPL := Lib.hid hpl
  have hk0 : w1.cell? ⟨w.heap.size, 0, none⟩ = some (.slice x.oa x.o.length x.oc) := (hb.cell (p := ⟨w.heap.size, 0, none⟩) (by rw [HS0.out]; simp; try omega)).trans hp0
  have hk1 : w1.cell? ⟨w.heap.size, 1, none⟩ = some (.slice x.ta x.t.length x.tc) := (hb.cell (p := ⟨w.heap.size, 1, none⟩) (by rw [HS0.out]; simp; try omega)).trans hp1
  have hl1 : w.heap.size < w1.heap.size := by have := hb.size; rw [HS0.out] at this; omega
  have hl2 : w.heap.size + 2 ≤ w1.heap.size := by have := hb.size; rw [HS0.out] at this; omega
  obtain ⟨O, hO⟩ : ∃ O, O = w1.heap.size := ⟨_, rfl⟩
  have HH1 : Hid (Below W0.heap.size W0 (w1.alloc (Obj.cells #[.slice y.oa y.o.length y.oc, .slice y.ta y.t.length y.tc] 29))) := hb.trans (((Below.refl w1.heap.size w1).alloc (Nat.le_refl _) _).mono hb.size)
  clear hpl hown hb hW0 HC hp0 hp1 HB0 HR0 HP0 HP1
  go_wp2_with fail
  generalize w1.alloc (Obj.cells #[.slice y.oa y.o.length y.oc, .slice y.ta y.t.length y.tc] 29) = w2 at *
  rw [← hO] at *
  clear hO hk0 hk1
  refine (HCK.out w2 HFR.out.bel).mono ?_
  rintro e w3 ⟨rfl, hb⟩
  replace HFR := Lib.hid (HFR.out.below hb)
  replace HH1 := Lib.hid (HH1.out.trans (hb.mono HH1.out.size))
  clear hb HCK
  have hyo : y.o = x.o := congrArg De.o HPL.out
  have HPT : Hid (y.t.map Tb.l = x.pl.t) := congrArg De.t HPL.out
  have HYO := Lib.hid hyo
  have h0 := HFR.out.p0
  clear hyo
  cases cv with
  | false =>
    have HNEG : Hid ((0 : Int) ≤ 0) := Int.le_refl _
    clear h0
    have HOE2 : Hid (oe = 1) := by have := HOE.out; rw [if_pos rfl] at this; exact this
    have HOD2 : Hid (od = x.pl) := by have := HOD.out; rw [if_neg (by rw [HOE2.out]; decide)] at this; exact this
    obtain ⟨hA5, hD5, hB5⟩ := HFR.out.fin
    have e0 := hA5.cell 0 _ rfl
    have e1 := hA5.cell 1 _ rfl
    have hpo := HP.out y _ (by rw [HOD2.out]; exact HPL.out) hD5 hB5
    rw [HOE2.out] at hpo
    have HPo := Lib.hid hpo
    obtain ⟨r0, r1, r2, r3, r4⟩ := HFR.out.r.two
    obtain ⟨x0, x1, x2, x3, x4⟩ := HFR.out.wk.box.cc
    clear hA5 hD5 hB5 hpo
    go_wp2_with fail
    all_goals first | (exfalso; have := HNEG.out; omega) | (generalize ((w3.setCell ⟨w.heap.size + 2, 0, none⟩ (.slice y.oa y.o.length y.oc)).setCell ⟨w.heap.size + 2, 1, none⟩ (.slice y.ta y.t.length y.tc)) = w9 at *; exact bodyPost_ret (v := .tuple #[.agg #[.slice y.oa y.o.length y.oc, .slice y.ta y.t.length y.tc], .int .i64 1]) (by simp [results, Try.results21, go_sem, e0, e1]) rfl HPo.out)
  | true =>
    rw [if_neg (by simp)] at HOE
    by_cases hn : n < 0 ∨ (x.o.length : Int) ≤ n
    · have HNEG := Lib.hid hn
      have HOE2 : Hid (oe = 4) := by have := HOE.out; rw [if_pos (by omega)] at this; exact this
      have HOD2 : Hid (od = x.pl) := by have := HOD.out; rw [if_neg (by rw [HOE2.out]; decide)] at this; exact this
      clear hn
      obtain ⟨hA5, hD5, hB5⟩ := HFR.out.fin
      have e0 := hA5.cell 0 _ rfl
      have e1 := hA5.cell 1 _ rfl
      have hpo := HP.out y _ (by rw [HOD2.out]; exact HPL.out) hD5 hB5
      rw [HOE2.out] at hpo
      have HPo := Lib.hid hpo
      obtain ⟨r0, r1, r2, r3, r4⟩ := HFR.out.r.two
      obtain ⟨x0, x1, x2, x3, x4⟩ := HFR.out.wk.box.cc
      clear hA5 hD5 hB5 hpo
      go_wp2_with fail
      all_goals first | (exfalso; have := HNEG.out; omega) | (generalize ((w3.setCell ⟨w.heap.size + 2, 0, none⟩ (.slice y.oa y.o.length y.oc)).setCell ⟨w.heap.size + 2, 1, none⟩ (.slice y.ta y.t.length y.tc)) = w9 at *; exact bodyPost_ret (v := .tuple #[.agg #[.slice y.oa y.o.length y.oc, .slice y.ta y.t.length y.tc], .int .i64 4]) (by simp [results, Try.results21, go_sem, e0, e1]) rfl HPo.out)
    · obtain ⟨q, rfl⟩ : ∃ q : Nat, n = (q : Int) := ⟨n.toNat, by omega⟩
      rw [Int.toNat_natCast] at HOE HOD
      have hq : q < x.o.length := by omega
      have HQ := Lib.hid hq
      obtain ⟨g, of, a1, a2, a3, a4⟩ := HDS.out w3 HFR.out.bel q hq
      have hqX : (q : Int) < (x.o.length : Int) := by omega
      have k4 := a4.c4
      rw [a1] at h0
      have HNEG : Hid ((0 : Int) ≤ 0) := Int.le_refl _
      generalize hrf2 : (x.o.getD q Dn.zero).rf = rq at HOE k4
      clear hrf2 a4 hn HDS
      by_cases hr0 : rq = 0
      · subst hr0
        have HOE2 : Hid (oe = 4) := by have := HOE.out; rw [if_pos (by omega)] at this; exact this
        have HOD2 : Hid (od = x.pl) := by have := HOD.out; rw [if_neg (by rw [HOE2.out]; decide)] at this; exact this
        obtain ⟨hA5, hD5, hB5⟩ := HFR.out.fin
        have e0 := hA5.cell 0 _ rfl
        have e1 := hA5.cell 1 _ rfl
        have hpo := HP.out y _ (by rw [HOD2.out]; exact HPL.out) hD5 hB5
        rw [HOE2.out] at hpo
        have HPo := Lib.hid hpo
        obtain ⟨r0, r1, r2, r3, r4⟩ := HFR.out.r.two
        obtain ⟨x0, x1, x2, x3, x4⟩ := HFR.out.wk.box.cc
        clear hA5 hD5 hB5 hpo
        go_wp2_with fail
        all_goals first | (exfalso; have := HNEG.out; omega) | (generalize ((w3.setCell ⟨w.heap.size + 2, 0, none⟩ (.slice y.oa y.o.length y.oc)).setCell ⟨w.heap.size + 2, 1, none⟩ (.slice y.ta y.t.length y.tc)) = w9 at *; exact bodyPost_ret (v := .tuple #[.agg #[.slice y.oa y.o.length y.oc, .slice y.ta y.t.length y.tc], .int .i64 4]) (by simp [results, Try.results21, go_sem, e0, e1]) rfl HPo.out)
      · have hr1 : (rq == 0) = false := by simpa using hr0
        rw [if_neg (by omega)] at HOE
        obtain ⟨s0, s1, s2, s3, s4⟩ := HXC.out _ HH1.out
        simp only [Nat.zero_add] at s0 s1 s2 s3 s4
        go_wp2_with fail
        refine (HMV.out w3).mono ?_
        rintro e w4 ⟨rfl, hb⟩
        replace HFR := Lib.hid (HFR.out.below hb)
        replace HH1 := Lib.hid (HH1.out.trans (hb.mono HH1.out.size))
        clear hb HMV s0 s1 s2 s3 s4 h0 k4 a1 a2 a3
        generalize movB f c = mb at *
        cases mb with
        | false =>
          have HOE2 : Hid (oe = 2) := by have := HOE.out; rw [if_pos rfl] at this; exact this
          have HOD2 : Hid (od = x.pl) := by have := HOD.out; rw [if_neg (by rw [HOE2.out]; decide)] at this; exact this
          obtain ⟨hA5, hD5, hB5⟩ := HFR.out.fin
          have e0 := hA5.cell 0 _ rfl
          have e1 := hA5.cell 1 _ rfl
          have hpo := HP.out y _ (by rw [HOD2.out]; exact HPL.out) hD5 hB5
          rw [HOE2.out] at hpo
          have HPo := Lib.hid hpo
          obtain ⟨r0, r1, r2, r3, r4⟩ := HFR.out.r.two
          obtain ⟨x0, x1, x2, x3, x4⟩ := HFR.out.wk.box.cc
          clear hA5 hD5 hB5 hpo
          go_wp2_with fail
          all_goals first | (exfalso; have := HNEG.out; omega) | (generalize ((w4.setCell ⟨w.heap.size + 2, 0, none⟩ (.slice y.oa y.o.length y.oc)).setCell ⟨w.heap.size + 2, 1, none⟩ (.slice y.ta y.t.length y.tc)) = w9 at *; exact bodyPost_ret (v := .tuple #[.agg #[.slice y.oa y.o.length y.oc, .slice y.ta y.t.length y.tc], .int .i64 2]) (by simp [results, Try.results21, go_sem, e0, e1]) rfl HPo.out)
        | true =>
          have HOE2 : Hid (oe = 0) := by have := HOE.out; rw [if_neg (by simp)] at this; exact this
          have hqy : q < y.o.length := by rw [HYO.out]; exact HQ.out
          obtain ⟨g3, b1, b2, b3, b4, b5, b6, b7⟩ := HFR.out.wk.own.descAt q hqy
          rw [← HYO.out] at HOD
          have HOD2 := HOD.out
          rw [if_pos HOE2.out] at HOD2
          replace HOD2 := Lib.hid HOD2
          have k2 := b4.c2
          have k3 := b4.c3
          have HF8 := Lib.hid (HFR.out.turn ((Below.refl (w.heap.size + 3) w4).setCell (p := ⟨g3, q * 5 + 2, none⟩) b6 (.int .i64 f)) (HFR.out.wk.putC b1 q hqy 2 (by omega) (.int .i64 f) ⟨(y.o.getD q Dn.zero).fi, (y.o.getD q Dn.zero).fl, f, (y.o.getD q Dn.zero).cu, (y.o.getD q Dn.zero).rf⟩ rfl))
          have hg8 : (y.o.set q ⟨(y.o.getD q Dn.zero).fi, (y.o.getD q Dn.zero).fl, f, (y.o.getD q Dn.zero).cu, (y.o.getD q Dn.zero).rf⟩).getD q Dn.zero = ⟨(y.o.getD q Dn.zero).fi, (y.o.getD q Dn.zero).fl, f, (y.o.getD q Dn.zero).cu, (y.o.getD q Dn.zero).rf⟩ := by rw [getD_get (by rw [List.length_set]; exact hqy), List.getElem_set_self]
          have HF9 := HF8.out.turn ((Below.refl (w.heap.size + 3) _).setCell (p := ⟨g3, q * 5 + 3, none⟩) b6 (.int .i64 c)) (HF8.out.wk.putC b1 q (by show q < (List.set _ _ _).length; rw [List.length_set]; exact hqy) 3 (by omega) (.int .i64 c) ⟨(y.o.getD q Dn.zero).fi, (y.o.getD q Dn.zero).fl, f, c, (y.o.getD q Dn.zero).rf⟩ (by show _ = (Dn.cells (List.getD (List.set _ _ _) _ _)).set _ _; rw [hg8]; rfl))
          simp only [List.set_set] at HF9
          replace HF9 := Lib.hid (HF9.below (Below.refl _ _).drew)
          have nO := HFR.out.wk.neO b1
          have nX : w.heap.size + 1 ≠ g3 := by omega
          obtain ⟨x0, x1, x2, x3, x4⟩ := HFR.out.wk.box.cc
          have hOA : y.oa = some ⟨g3, 0, none⟩ := b1
          simp only [hOA] at x0
          have hqI : (q : Int) < (y.o.length : Int) := by omega
          have b5q := b5 (q * 5 + 2)
          have b5r := b5 (q * 5 + 3)
          obtain ⟨s0, s1, s2, s3, s4⟩ := HXC.out _ HH1.out
          simp only [Nat.zero_add] at s0 s1 s2 s3 s4
          clear b4 b5 hg8 HF8 HFR b1 HOD
          generalize (y.o.getD q Dn.zero).f = zf at *
          generalize (y.o.getD q Dn.zero).cu = zc at *
          go_wp2_with fail
          go_region
          generalize hwB : (((w4.setCell ⟨g3, q * 5 + 2, none⟩ (.int .i64 f)).setCell ⟨g3, q * 5 + 3, none⟩ (.int .i64 c)).drew) = wB at *
          clear hwB x0 x1 x2 x3 x4 s0 s1 s2 s3 s4 k2 k3 b5q b5r
          obtain ⟨hA5, hD5, hB5⟩ := HF9.out.fin
          simp only [List.length_set, hOA] at hA5 hD5 hB5
          have e0 := hA5.cell 0 _ rfl
          have e1 := hA5.cell 1 _ rfl
          have hpo := HP.out _ _ (by rw [HOD2.out]; exact De.ext' rfl HPT.out) hD5 hB5
          rw [HOE2.out] at hpo
          simp only [List.length_set] at hpo
          have HPo := Lib.hid hpo
          obtain ⟨r0, r1, r2, r3, r4⟩ := HF9.out.r.two
          obtain ⟨x0, x1, x2, x3, x4⟩ := HF9.out.wk.box.cc
          simp only [List.length_set, hOA] at x0 x1
          clear hA5 hD5 hB5 hpo hOA
          go_wp2_with fail
          generalize ((wB.setCell ⟨w.heap.size + 2, 0, none⟩ (.slice (some ⟨g3, 0, none⟩) y.o.length y.oc)).setCell ⟨w.heap.size + 2, 1, none⟩ (.slice y.ta y.t.length y.tc)) = w9 at *
          exact bodyPost_ret (v := .tuple #[.agg #[.slice (some ⟨g3, 0, none⟩) y.o.length y.oc, .slice y.ta y.t.length y.tc], .int .i64 0]) (by simp [results, Try.results21, go_sem, e0, e1]) rfl HPo.out

set_option maxHeartbeats 8000000 in
theorem updR_any (x : Dv) (n fi fl f c rf : Int) (w : World) (h : DIn w x) (hz : DSz x) :
    Calls Try.prog 22 #[dVal x, .int .i64 n, .agg #[.int .i64 fi, .int .i64 fl, .int .i64 f, .int .i64 c, .int .i64 rf]] w (OutP w x (updD x.pl n f c) (fun v => .tuple #[v, .int .i64 (updE x.pl n f c)])) := by
  have HX := Lib.hid h
  have HC : Hid (∀ W, Below w.heap.size w W → Calls Try.prog 39 #[.agg #[.slice x.oa x.o.length x.oc, .slice x.ta x.t.length x.tc]] W fun e w' => ∃ y : Dv, e = .returned (.agg #[.slice y.oa y.o.length y.oc, .slice y.ta y.t.length y.tc]) ∧ y.pl = x.pl ∧ DOwn W.heap.size w' y ∧ Below W.heap.size W w') := fun W hb => copied_any x W (h.below hb) hz
  have HCK : Hid (∀ W, Below w.heap.size w W → Calls Try.prog 24 #[.agg #[.slice x.oa x.o.length x.oc, .slice x.ta x.t.length x.tc]] W (RetW (.bool (checkV x.pl)) W)) := fun W hb => checkR_any' x W (h.below hb) hz.o hz.t
  have HP : Hid (∀ (y : Dv) w', y.pl = updD x.pl n f c → DAns w x w' y → Below w.heap.size w w' → OutP w x (updD x.pl n f c) (fun v => .tuple #[v, .int .i64 (updE x.pl n f c)]) (.returned (.tuple #[.agg #[.slice y.oa y.o.length y.oc, .slice y.ta y.t.length y.tc], .int .i64 (updE x.pl n f c)])) w') := fun y w' h1 h2 h3 => ⟨y, rfl, h1, h2, h3⟩
  have HOE : Hid (updE x.pl n f c = if checkV x.pl = false then 1 else if n < 0 ∨ (x.o.length : Int) ≤ n ∨ (x.o.getD n.toNat Dn.zero).rf = 0 then 4 else if movB f c = false then 2 else 0) := rfl
  have HOD : Hid (updD x.pl n f c = if updE x.pl n f c = 0 then ⟨x.o.set n.toNat ⟨(x.o.getD n.toNat Dn.zero).fi, (x.o.getD n.toNat Dn.zero).fl, f, c, (x.o.getD n.toNat Dn.zero).rf⟩, x.pl.t⟩ else x.pl) := rfl
  have HDS : Hid (∀ W, Below w.heap.size w W → ∀ k, k < x.o.length → ∃ g of, x.oa = some ⟨g, of, none⟩ ∧ (x.o.length : Int) ≤ x.oc ∧ (x.oc : Int) ≤ 9223372036854775807 ∧ DCel W g (of + k * 5) (x.o.getD k Dn.zero)) := h.descs
  have hol := hz.o
  have HMB : Hid (movB f c = decide (0 ≤ f ∧ f ≤ 128 ∧ 0 ≤ c ∧ c ≤ 1000000)) := by
    unfold movB curB
    rw [Hid, ← Bool.decide_and]
    congr 1
    simp only [and_assoc]
  obtain ⟨W0, hW0⟩ : ∃ W0, W0 = ((w.alloc (Obj.cells #[.slice x.oa x.o.length x.oc, .slice x.ta x.t.length x.tc] 29)).alloc (Obj.cells #[.int .i64 fi, .int .i64 fl, .int .i64 f, .int .i64 c, .int .i64 rf] 34)).alloc (Obj.cells #[.slice none 0 0, .slice none 0 0] 29) := ⟨_, rfl⟩
  have hb0 : Below w.heap.size w W0 := by rw [hW0]; exact (((Below.refl _ w).alloc (Nat.le_refl _) _).alloc (by simp) _).alloc (by simp; omega) _
  have hs0 : W0.heap.size = w.heap.size + 3 := by rw [hW0]; simp
  have hr0 : At W0 (w.heap.size + 2) [.slice none 0 0, .slice none 0 0] := by rw [hW0]; exact (At.new ((w.alloc (Obj.cells #[.slice x.oa x.o.length x.oc, .slice x.ta x.t.length x.tc] 29)).alloc (Obj.cells #[.int .i64 fi, .int .i64 fl, .int .i64 f, .int .i64 c, .int .i64 rf] 34)) [.slice none 0 0, .slice none 0 0] 29).cast (by simp)
  have hp0 : W0.cell? ⟨w.heap.size, 0, none⟩ = some (.slice x.oa x.o.length x.oc) := by rw [hW0, World.cell?_alloc_lt _ _ _ (by rw [alloc_size, alloc_size]; show w.heap.size < _; omega), World.cell?_alloc_lt _ _ _ (by rw [alloc_size]; show w.heap.size < _; omega)]; simp
  have hp1 : W0.cell? ⟨w.heap.size, 1, none⟩ = some (.slice x.ta x.t.length x.tc) := by rw [hW0, World.cell?_alloc_lt _ _ _ (by rw [alloc_size, alloc_size]; show w.heap.size < _; omega), World.cell?_alloc_lt _ _ _ (by rw [alloc_size]; show w.heap.size < _; omega)]; simp
  have hx0 : DCel W0 (w.heap.size + 1) 0 ⟨fi, fl, f, c, rf⟩ := by
    have h1 := DCel.new (w.alloc (Obj.cells #[.slice x.oa x.o.length x.oc, .slice x.ta x.t.length x.tc] 29)) ⟨fi, fl, f, c, rf⟩
    rw [alloc_size] at h1
    rw [hW0]
    exact h1.below ((Below.refl _ _).alloc (Nat.le_refl _) _) (by simp)
  have HXC : Hid (∀ W, Below W0.heap.size W0 W → DCel W (w.heap.size + 1) 0 ⟨fi, fl, f, c, rf⟩) := fun W hb => hx0.below hb (by rw [hs0]; omega)
  have HB0 := Lib.hid hb0
  have HS0 := Lib.hid hs0
  have HR0 := Lib.hid hr0
  have HP0 := Lib.hid hp0
  have HP1 := Lib.hid hp1
  clear hb0 hs0 hr0 h hx0
  generalize OutP w x (updD x.pl n f c) (fun v => .tuple #[v, .int .i64 (updE x.pl n f c)]) = Post at *
  generalize updD x.pl n f c = od at *
  generalize updE x.pl n f c = oe at *
  generalize checkV x.pl = cv at *
  unfold dVal
  go_enter Try.func22, Try.ntmps22
  go_wp2_with fail
  rw [← hW0]
  refine (HCK.out W0 HB0.out).mono ?_
  rintro e w2 ⟨rfl, hb⟩
  have HR2 := Lib.hid (HR0.out.below hb HR0.out.hi)
  have HB2 := Lib.hid (HB0.out.trans (hb.mono HB0.out.size))
  have h0 := (hb.cell (p := ⟨w.heap.size, 0, none⟩) (World.block_lt_of_cell? _ _ hp0)).trans hp0
  have h1 := (hb.cell (p := ⟨w.heap.size, 1, none⟩) (World.block_lt_of_cell? _ _ hp1)).trans hp1
  have hl2 : w.heap.size + 3 ≤ w2.heap.size := by rw [← HS0.out]; exact hb.size
  have HH1 : Hid (Below W0.heap.size W0 w2) := hb
  clear hb HCK hp0 hp1 HB0 HR0 HP0 HP1 hW0
  cases cv with
  | false =>
    have HNEG : Hid ((0 : Int) ≤ 0) := Int.le_refl _
    have HOE2 : Hid (oe = 1) := by have := HOE.out; rw [if_pos rfl] at this; exact this
    have HOD2 : Hid (od = x.pl) := by have := HOD.out; rw [if_neg (by rw [HOE2.out]; decide)] at this; exact this
    obtain ⟨r0, r1, r2, r3, r4⟩ := HR2.out.two
    obtain ⟨hA5, hD5, hB5⟩ := ret_in HX.out HR2.out HB2.out (by omega)
    have e0 := hA5.cell 0 _ rfl
    have e1 := hA5.cell 1 _ rfl
    have hpo := HP.out x _ (by rw [HOD2.out]) hD5 hB5
    rw [HOE2.out] at hpo
    have HPo := Lib.hid hpo
    clear hA5 hD5 hB5 hpo
    go_wp2_with fail
    all_goals first | (exfalso; have := HNEG.out; omega) | (generalize ((w2.setCell ⟨w.heap.size + 2, 0, none⟩ (.slice x.oa x.o.length x.oc)).setCell ⟨w.heap.size + 2, 1, none⟩ (.slice x.ta x.t.length x.tc)) = w9 at *; exact bodyPost_ret (v := .tuple #[.agg #[.slice x.oa x.o.length x.oc, .slice x.ta x.t.length x.tc], .int .i64 1]) (by simp [results, Try.results22, go_sem, e0, e1]) rfl HPo.out)
  | true =>
    rw [if_neg (by simp)] at HOE
    by_cases hn : n < 0 ∨ (x.o.length : Int) ≤ n
    · have HNEG := Lib.hid hn
      have HOE2 : Hid (oe = 4) := by have := HOE.out; rw [if_pos (by omega)] at this; exact this
      have HOD2 : Hid (od = x.pl) := by have := HOD.out; rw [if_neg (by rw [HOE2.out]; decide)] at this; exact this
      clear hn
      obtain ⟨r0, r1, r2, r3, r4⟩ := HR2.out.two
      obtain ⟨hA5, hD5, hB5⟩ := ret_in HX.out HR2.out HB2.out (by omega)
      have e0 := hA5.cell 0 _ rfl
      have e1 := hA5.cell 1 _ rfl
      have hpo := HP.out x _ (by rw [HOD2.out]) hD5 hB5
      rw [HOE2.out] at hpo
      have HPo := Lib.hid hpo
      clear hA5 hD5 hB5 hpo
      go_wp2_with fail
      all_goals first | (exfalso; have := HNEG.out; omega) | (generalize ((w2.setCell ⟨w.heap.size + 2, 0, none⟩ (.slice x.oa x.o.length x.oc)).setCell ⟨w.heap.size + 2, 1, none⟩ (.slice x.ta x.t.length x.tc)) = w9 at *; exact bodyPost_ret (v := .tuple #[.agg #[.slice x.oa x.o.length x.oc, .slice x.ta x.t.length x.tc], .int .i64 4]) (by simp [results, Try.results22, go_sem, e0, e1]) rfl HPo.out)
    · obtain ⟨q, rfl⟩ : ∃ q : Nat, n = (q : Int) := ⟨n.toNat, by omega⟩
      rw [Int.toNat_natCast] at HOE HOD
      have hq : q < x.o.length := by omega
      have HQ := Lib.hid hq
      obtain ⟨g, of, a1, a2, a3, a4⟩ := HDS.out w2 HB2.out q hq
      have hqX : (q : Int) < (x.o.length : Int) := by omega
      have k4 := a4.c4
      have h0s := h0
      rw [a1] at h0
      generalize hrf2 : (x.o.getD q Dn.zero).rf = rq at HOE k4
      clear hrf2 a4 hn HDS
      by_cases hr0 : rq = 0
      · subst hr0
        have HNEG : Hid ((0 : Int) ≤ 0) := Int.le_refl _
        have HOE2 : Hid (oe = 4) := by have := HOE.out; rw [if_pos (by omega)] at this; exact this
        have HOD2 : Hid (od = x.pl) := by have := HOD.out; rw [if_neg (by rw [HOE2.out]; decide)] at this; exact this
        clear h0s
        have HA1 := Lib.hid a1
        obtain ⟨r0, r1, r2, r3, r4⟩ := HR2.out.two
        obtain ⟨hA5, hD5, hB5⟩ := ret_in HX.out HR2.out HB2.out (by omega)
        have e0 := hA5.cell 0 _ rfl
        have e1 := hA5.cell 1 _ rfl
        have hpo := HP.out x _ (by rw [HOD2.out]) hD5 hB5
        rw [HOE2.out] at hpo
        rw [a1] at hpo e0 e1
        have HPo := Lib.hid hpo
        clear hA5 hD5 hB5 hpo
        go_wp2_with fail
        all_goals first | (exfalso; have := HNEG.out; omega) | (generalize ((w2.setCell ⟨w.heap.size + 2, 0, none⟩ (.slice (some ⟨g, of, none⟩) x.o.length x.oc)).setCell ⟨w.heap.size + 2, 1, none⟩ (.slice x.ta x.t.length x.tc)) = w9 at *; exact bodyPost_ret (v := .tuple #[.agg #[.slice (some ⟨g, of, none⟩) x.o.length x.oc, .slice x.ta x.t.length x.tc], .int .i64 4]) (by simp [results, Try.results22, go_sem, e0, e1]) rfl HPo.out)
      · have hr1 : (rq == 0) = false := by simpa using hr0
        rw [if_neg (by omega)] at HOE
        have HA1 := Lib.hid a1
        obtain ⟨s0, s1, s2, s3, s4⟩ := HXC.out _ HH1.out
        simp only [Nat.zero_add] at s0 s1 s2 s3 s4
        by_cases hm : 0 ≤ f ∧ f ≤ 128 ∧ 0 ≤ c ∧ c ≤ 1000000
        · have hmb := HMB.out
          rw [decide_eq_true hm] at hmb
          have HOE2 : Hid (oe = 0) := by have := HOE.out; rw [if_neg (by rw [hmb]; simp)] at this; exact this
          obtain ⟨m1, m2, m3, m4⟩ := hm
          clear hmb HMB HOE h0s
          go_wp2_with fail
          rw [← a1]
          refine (HC.out w2 HB2.out).mono ?_
          rintro e w4 ⟨y, rfl, hpl, hown, hb⟩
          rw [← a1] at h0
          have HFR : Hid (Fr w x (w4.alloc (Obj.cells #[.slice y.oa y.o.length y.oc, .slice y.ta y.t.length y.tc] 29)) (w.heap.size + 3) (w.heap.size + 2) w4.heap.size y) := Fr.start h0 h1 HR2.out HB2.out (by omega) (by omega) hl2 hown hb
          have HPL := Lib.hid hpl
          replace HH1 := Lib.hid ((HH1.out.trans (hb.mono HH1.out.size)).trans (((Below.refl w4.heap.size w4).alloc (Nat.le_refl _) (Obj.cells #[.slice y.oa y.o.length y.oc, .slice y.ta y.t.length y.tc] 29)).mono (Nat.le_trans HH1.out.size hb.size)))
          obtain ⟨w6, hw6⟩ : ∃ w6, w6 = w4.alloc (Obj.cells #[.slice y.oa y.o.length y.oc, .slice y.ta y.t.length y.tc] 29) := ⟨_, rfl⟩
          obtain ⟨O, hO⟩ : ∃ O, O = w4.heap.size := ⟨_, rfl⟩
          rw [← hw6] at HFR HH1
          rw [← hO] at HFR
          have hyo : y.o = x.o := congrArg De.o HPL.out
          have HPT : Hid (y.t.map Tb.l = x.pl.t) := congrArg De.t HPL.out
          have HYO := Lib.hid hyo
          clear hyo hpl hown hb HC h0 h1 s0 s1 s2 s3 s4 k4 a1 a2 a3 HR2 HB2 m1 m2 m3 m4
          go_upto_region 8 with (fail)
          rw [← hw6, ← hO]
          clear hw6 hO
          have hqy : q < y.o.length := by rw [HYO.out]; exact HQ.out
          obtain ⟨g3, b1, b2, b3, b4, b5, b6, b7⟩ := HFR.out.wk.own.descAt q hqy
          rw [← HYO.out] at HOD
          have HOD2 := HOD.out
          rw [if_pos HOE2.out] at HOD2
          replace HOD2 := Lib.hid HOD2
          have k2 := b4.c2
          have k3 := b4.c3
          have HF8 := Lib.hid (HFR.out.turn ((Below.refl (w.heap.size + 3) w6).setCell (p := ⟨g3, q * 5 + 2, none⟩) b6 (.int .i64 f)) (HFR.out.wk.putC b1 q hqy 2 (by omega) (.int .i64 f) ⟨(y.o.getD q Dn.zero).fi, (y.o.getD q Dn.zero).fl, f, (y.o.getD q Dn.zero).cu, (y.o.getD q Dn.zero).rf⟩ rfl))
          have hg8 : (y.o.set q ⟨(y.o.getD q Dn.zero).fi, (y.o.getD q Dn.zero).fl, f, (y.o.getD q Dn.zero).cu, (y.o.getD q Dn.zero).rf⟩).getD q Dn.zero = ⟨(y.o.getD q Dn.zero).fi, (y.o.getD q Dn.zero).fl, f, (y.o.getD q Dn.zero).cu, (y.o.getD q Dn.zero).rf⟩ := by rw [getD_get (by rw [List.length_set]; exact hqy), List.getElem_set_self]
          have HF9 := HF8.out.turn ((Below.refl (w.heap.size + 3) _).setCell (p := ⟨g3, q * 5 + 3, none⟩) b6 (.int .i64 c)) (HF8.out.wk.putC b1 q (by show q < (List.set _ _ _).length; rw [List.length_set]; exact hqy) 3 (by omega) (.int .i64 c) ⟨(y.o.getD q Dn.zero).fi, (y.o.getD q Dn.zero).fl, f, c, (y.o.getD q Dn.zero).rf⟩ (by show _ = (Dn.cells (List.getD (List.set _ _ _) _ _)).set _ _; rw [hg8]; rfl))
          simp only [List.set_set] at HF9
          replace HF9 := Lib.hid (HF9.below (Below.refl _ _).drew)
          have nO := HFR.out.wk.neO b1
          have nX : w.heap.size + 1 ≠ g3 := by omega
          obtain ⟨x0, x1, x2, x3, x4⟩ := HFR.out.wk.box.cc
          have hOA : y.oa = some ⟨g3, 0, none⟩ := b1
          simp only [hOA] at x0
          have hqI : (q : Int) < (y.o.length : Int) := by omega
          have b5q := b5 (q * 5 + 2)
          have b5r := b5 (q * 5 + 3)
          obtain ⟨s0, s1, s2, s3, s4⟩ := HXC.out _ HH1.out
          simp only [Nat.zero_add] at s0 s1 s2 s3 s4
          clear b4 b5 hg8 HF8 HFR b1 HOD
          generalize (y.o.getD q Dn.zero).f = zf at *
          generalize (y.o.getD q Dn.zero).cu = zc at *
          go_wp2_with fail
          go_region
          generalize hwB : (((w6.setCell ⟨g3, q * 5 + 2, none⟩ (.int .i64 f)).setCell ⟨g3, q * 5 + 3, none⟩ (.int .i64 c)).drew) = wB at *
          clear hwB x0 x1 x2 x3 x4 s0 s1 s2 s3 s4 k2 k3 b5q b5r
          obtain ⟨hA5, hD5, hB5⟩ := HF9.out.fin
          simp only [List.length_set, hOA] at hA5 hD5 hB5
          have e0 := hA5.cell 0 _ rfl
          have e1 := hA5.cell 1 _ rfl
          have hpo := HP.out _ _ (by rw [HOD2.out]; exact De.ext' rfl HPT.out) hD5 hB5
          rw [HOE2.out] at hpo
          simp only [List.length_set] at hpo
          have HPo := Lib.hid hpo
          obtain ⟨r0, r1, r2, r3, r4⟩ := HF9.out.r.two
          obtain ⟨x0, x1, x2, x3, x4⟩ := HF9.out.wk.box.cc
          simp only [List.length_set, hOA] at x0 x1
          clear hA5 hD5 hB5 hpo hOA
          go_wp2_with fail
          generalize ((wB.setCell ⟨w.heap.size + 2, 0, none⟩ (.slice (some ⟨g3, 0, none⟩) y.o.length y.oc)).setCell ⟨w.heap.size + 2, 1, none⟩ (.slice y.ta y.t.length y.tc)) = w9 at *
          exact bodyPost_ret (v := .tuple #[.agg #[.slice (some ⟨g3, 0, none⟩) y.o.length y.oc, .slice y.ta y.t.length y.tc], .int .i64 0]) (by simp [results, Try.results22, go_sem, e0, e1]) rfl HPo.out
        · have hmb := HMB.out
          rw [decide_eq_false hm] at hmb
          have HNEG := Lib.hid hm
          have HOE2 : Hid (oe = 2) := by have := HOE.out; rw [if_pos hmb] at this; exact this
          have HOD2 : Hid (od = x.pl) := by have := HOD.out; rw [if_neg (by rw [HOE2.out]; decide)] at this; exact this
          clear hm hmb HMB h0s
          obtain ⟨r0, r1, r2, r3, r4⟩ := HR2.out.two
          obtain ⟨hA5, hD5, hB5⟩ := ret_in HX.out HR2.out HB2.out (by omega)
          have e0 := hA5.cell 0 _ rfl
          have e1 := hA5.cell 1 _ rfl
          have hpo := HP.out x _ (by rw [HOD2.out]) hD5 hB5
          rw [HOE2.out] at hpo
          rw [a1] at hpo e0 e1
          have HPo := Lib.hid hpo
          clear hA5 hD5 hB5 hpo
          go_wp2_with fail
          all_goals first | (exfalso; have := HNEG.out; omega) | (generalize ((w2.setCell ⟨w.heap.size + 2, 0, none⟩ (.slice (some ⟨g, of, none⟩) x.o.length x.oc)).setCell ⟨w.heap.size + 2, 1, none⟩ (.slice x.ta x.t.length x.tc)) = w9 at *; exact bodyPost_ret (v := .tuple #[.agg #[.slice (some ⟨g, of, none⟩) x.o.length x.oc, .slice x.ta x.t.length x.tc], .int .i64 2]) (by simp [results, Try.results22, go_sem, e0, e1]) rfl HPo.out)
end Go.Proofs.Ytflcbefomjlgmaa
