/- Layer 46, shared texts of this seat, part 11. -/
import Derived.Test.YtimhaidiclbnhaaGreatM06
import Derived.Test.YtimhaidiclbnhaaGreatM07
import Derived.Test.YtimhaidiclbnhaaGreatM09
import Derived.Test.YtimhaidiclbnhaaGreatM10
import Derived.Test.YtimhaidiclbnhaaGreatM08
/- Update, the document's too. -/
set_option maxRecDepth 100000
set_option linter.unusedSimpArgs false
set_option linter.unusedVariables false
namespace Go.Proofs.YtimhaidiclbnhaaGreat.Des
open Go.ChangeShapes Go.WideShapes Go.ChangeAt Go.RowKit

set_option maxHeartbeats 8000000 in
theorem upd_any (x : Dv) (n fi fl f c rf : Int) (w : World) (h : DIn w x) (hz : DSz x) :
    Calls Tryz.prog 98 #[dVal x, .int .i64 n, .agg #[.int .i64 fi, .int .i64 fl, .int .i64 f, .int .i64 c, .int .i64 rf]] w (OutP w x (updD x.pl n f c) (fun v => .tuple #[v, .int .i64 (updE x.pl n f c)])) := by
  have HX := Lib.hid h
  have HC : Hid (∀ W, Below w.heap.size w W → Calls Tryz.prog 116 #[.agg #[.slice x.oa x.o.length x.oc, .slice x.ta x.t.length x.tc]] W fun e w' => ∃ y : Dv, e = .returned (.agg #[.slice y.oa y.o.length y.oc, .slice y.ta y.t.length y.tc]) ∧ y.pl = x.pl ∧ DOwn W.heap.size w' y ∧ Below W.heap.size W w') := fun W hb => clone_any x W (h.below hb) hz
  have HCK : Hid (∀ W, Below w.heap.size w W → Calls Tryz.prog 127 #[.agg #[.slice x.oa x.o.length x.oc, .slice x.ta x.t.length x.tc]] W (RetW (.bool (checkV x.pl)) W)) := fun W hb => check_any' x W (h.below hb) hz.o hz.t
  have HMV : Hid (∀ W, Calls Tryz.prog 128 #[.agg #[.int .i64 fi, .int .i64 fl, .int .i64 f, .int .i64 c, .int .i64 rf]] W (RetW (.bool (movB f c)) W)) := fun W => moving_any ⟨fi, fl, f, c, rf⟩ W
  have HP : Hid (∀ (y : Dv) w', y.pl = updD x.pl n f c → DAns w x w' y → Below w.heap.size w w' → OutP w x (updD x.pl n f c) (fun v => .tuple #[v, .int .i64 (updE x.pl n f c)]) (.returned (.tuple #[.agg #[.slice y.oa y.o.length y.oc, .slice y.ta y.t.length y.tc], .int .i64 (updE x.pl n f c)])) w') := fun y w' h1 h2 h3 => ⟨y, rfl, h1, h2, h3⟩
  have HOE : Hid (updE x.pl n f c = if checkV x.pl = false then 1 else if n < 0 ∨ (x.o.length : Int) ≤ n ∨ (x.o.getD n.toNat Dn.zero).rf = 0 then 4 else if movB f c = false then 2 else 0) := rfl
  have HOD : Hid (updD x.pl n f c = if updE x.pl n f c = 0 then ⟨x.o.set n.toNat ⟨(x.o.getD n.toNat Dn.zero).fi, (x.o.getD n.toNat Dn.zero).fl, f, c, (x.o.getD n.toNat Dn.zero).rf⟩, x.pl.t⟩ else x.pl) := rfl
  have HDS : Hid (∀ W, Below w.heap.size w W → ∀ k, k < x.o.length → ∃ g of, x.oa = some ⟨g, of, none⟩ ∧ (x.o.length : Int) ≤ x.oc ∧ (x.oc : Int) ≤ 9223372036854775807 ∧ DCel W g (of + k * 5) (x.o.getD k Dn.zero)) := h.descs
  have hol := hz.o
  obtain ⟨W0, hW0⟩ : ∃ W0, W0 = ((w.alloc (Obj.cells #[.slice x.oa x.o.length x.oc, .slice x.ta x.t.length x.tc] 83)).alloc (Obj.cells #[.int .i64 fi, .int .i64 fl, .int .i64 f, .int .i64 c, .int .i64 rf] 126)).alloc (Obj.cells #[.slice none 0 0, .slice none 0 0] 83) := ⟨_, rfl⟩
  have hb0 : Below w.heap.size w W0 := by rw [hW0]; exact (((Below.refl _ w).alloc (Nat.le_refl _) _).alloc (by simp) _).alloc (by simp; omega) _
  have hs0 : W0.heap.size = w.heap.size + 3 := by rw [hW0]; simp
  have hr0 : At W0 (w.heap.size + 2) [.slice none 0 0, .slice none 0 0] := by rw [hW0]; exact (At.new ((w.alloc (Obj.cells #[.slice x.oa x.o.length x.oc, .slice x.ta x.t.length x.tc] 83)).alloc (Obj.cells #[.int .i64 fi, .int .i64 fl, .int .i64 f, .int .i64 c, .int .i64 rf] 126)) [.slice none 0 0, .slice none 0 0] 83).cast (by simp)
  have hp0 : W0.cell? ⟨w.heap.size, 0, none⟩ = some (.slice x.oa x.o.length x.oc) := by rw [hW0, World.cell?_alloc_lt _ _ _ (by rw [alloc_size, alloc_size]; show w.heap.size < _; omega), World.cell?_alloc_lt _ _ _ (by rw [alloc_size]; show w.heap.size < _; omega)]; simp
  have hp1 : W0.cell? ⟨w.heap.size, 1, none⟩ = some (.slice x.ta x.t.length x.tc) := by rw [hW0, World.cell?_alloc_lt _ _ _ (by rw [alloc_size, alloc_size]; show w.heap.size < _; omega), World.cell?_alloc_lt _ _ _ (by rw [alloc_size]; show w.heap.size < _; omega)]; simp
  have hx0 : DCel W0 (w.heap.size + 1) 0 ⟨fi, fl, f, c, rf⟩ := by
    have h1 := DCel.new (w.alloc (Obj.cells #[.slice x.oa x.o.length x.oc, .slice x.ta x.t.length x.tc] 83)) ⟨fi, fl, f, c, rf⟩
    rw [alloc_size] at h1
    rw [hW0]
    exact h1.below ((Below.refl _ _).alloc (Nat.le_refl _) _) (by simp)
  have HXC : Hid (∀ W, Below W0.heap.size W0 W → DCel W (w.heap.size + 1) 0 ⟨fi, fl, f, c, rf⟩) := fun W hb => hx0.below hb (by rw [hs0]; omega)
  have HB0 := Lib.hid hb0
  have HS0 := Lib.hid hs0
  have HR0 := Lib.hid hr0
  have HP0 := Lib.hid hp0
  have HP1 := Lib.hid hp1
  clear hb0 hs0 hr0 h hx0
  generalize OutP w x (updD x.pl n f c) (fun v => .tuple #[v, .int .i64 (updE x.pl n f c)]) = Post at *
  generalize updD x.pl n f c = od at *
  generalize updE x.pl n f c = oe at *
  generalize checkV x.pl = cv at *
  unfold dVal
  go_enter Tryz.func98, Tryz.ntmps98
  go_wp2_with fail
  rw [← hW0]
  refine (HC.out W0 HB0.out).mono ?_
  rintro e w1 ⟨y, rfl, hpl, hown, hb⟩
  have HFR : Hid (Fr w x (w1.alloc (Obj.cells #[.slice y.oa y.o.length y.oc, .slice y.ta y.t.length y.tc] 83)) (w.heap.size + 3) (w.heap.size + 2) w1.heap.size y) := Fr.start HP0.out HP1.out HR0.out HB0.out (by omega) (by omega) (by rw [HS0.out]; exact Nat.le_refl _) hown hb
  have HPL := Lib.hid hpl
  have hk0 : w1.cell? ⟨w.heap.size, 0, none⟩ = some (.slice x.oa x.o.length x.oc) := (hb.cell (p := ⟨w.heap.size, 0, none⟩) (by rw [HS0.out]; simp; try omega)).trans hp0
  have hk1 : w1.cell? ⟨w.heap.size, 1, none⟩ = some (.slice x.ta x.t.length x.tc) := (hb.cell (p := ⟨w.heap.size, 1, none⟩) (by rw [HS0.out]; simp; try omega)).trans hp1
  have hl1 : w.heap.size < w1.heap.size := by have := hb.size; rw [HS0.out] at this; omega
  have hl2 : w.heap.size + 2 ≤ w1.heap.size := by have := hb.size; rw [HS0.out] at this; omega
  obtain ⟨O, hO⟩ : ∃ O, O = w1.heap.size := ⟨_, rfl⟩
  have HH1 : Hid (Below W0.heap.size W0 (w1.alloc (Obj.cells #[.slice y.oa y.o.length y.oc, .slice y.ta y.t.length y.tc] 83))) := hb.trans (((Below.refl w1.heap.size w1).alloc (Nat.le_refl _) _).mono hb.size)
  clear hpl hown hb hW0 HC hp0 hp1 HB0 HR0 HP0 HP1
  go_wp2_with fail
  generalize w1.alloc (Obj.cells #[.slice y.oa y.o.length y.oc, .slice y.ta y.t.length y.tc] 83) = w2 at *
  rw [← hO] at *
  clear hO hk0 hk1
  refine (HCK.out w2 HFR.out.bel).mono ?_
  rintro e w3 ⟨rfl, hb⟩
  replace HFR := Lib.hid (HFR.out.below hb)
  replace HH1 := Lib.hid (HH1.out.trans (hb.mono HH1.out.size))
  clear hb HCK
  have hyo : y.o = x.o := congrArg De.o HPL.out
  have HPT : Hid (y.t.map Tb.l = x.pl.t) := congrArg De.t HPL.out
  have HYO := Lib.hid hyo
  have h0 := HFR.out.p0
  clear hyo
  cases cv with
  | false =>
    have HNEG : Hid ((0 : Int) ≤ 0) := Int.le_refl _
    clear h0
    have HOE2 : Hid (oe = 1) := by have := HOE.out; rw [if_pos rfl] at this; exact this
    have HOD2 : Hid (od = x.pl) := by have := HOD.out; rw [if_neg (by rw [HOE2.out]; decide)] at this; exact this
    obtain ⟨hA5, hD5, hB5⟩ := HFR.out.fin
    have e0 := hA5.cell 0 _ rfl
    have e1 := hA5.cell 1 _ rfl
    have hpo := HP.out y _ (by rw [HOD2.out]; exact HPL.out) hD5 hB5
    rw [HOE2.out] at hpo
    have HPo := Lib.hid hpo
    obtain ⟨r0, r1, r2, r3, r4⟩ := HFR.out.r.two
    obtain ⟨x0, x1, x2, x3, x4⟩ := HFR.out.wk.box.cc
    clear hA5 hD5 hB5 hpo
    go_wp2_with fail
    all_goals first | (exfalso; have := HNEG.out; omega) | (generalize ((w3.setCell ⟨w.heap.size + 2, 0, none⟩ (.slice y.oa y.o.length y.oc)).setCell ⟨w.heap.size + 2, 1, none⟩ (.slice y.ta y.t.length y.tc)) = w9 at *; exact bodyPost_ret (v := .tuple #[.agg #[.slice y.oa y.o.length y.oc, .slice y.ta y.t.length y.tc], .int .i64 1]) (by simp [results, Tryz.results98, go_sem, e0, e1]) rfl HPo.out)
  | true =>
    rw [if_neg (by simp)] at HOE
    by_cases hn : n < 0 ∨ (x.o.length : Int) ≤ n
    · have HNEG := Lib.hid hn
      have HOE2 : Hid (oe = 4) := by have := HOE.out; rw [if_pos (by omega)] at this; exact this
      have HOD2 : Hid (od = x.pl) := by have := HOD.out; rw [if_neg (by rw [HOE2.out]; decide)] at this; exact this
      clear hn
      obtain ⟨hA5, hD5, hB5⟩ := HFR.out.fin
      have e0 := hA5.cell 0 _ rfl
      have e1 := hA5.cell 1 _ rfl
      have hpo := HP.out y _ (by rw [HOD2.out]; exact HPL.out) hD5 hB5
      rw [HOE2.out] at hpo
      have HPo := Lib.hid hpo
      obtain ⟨r0, r1, r2, r3, r4⟩ := HFR.out.r.two
      obtain ⟨x0, x1, x2, x3, x4⟩ := HFR.out.wk.box.cc
      clear hA5 hD5 hB5 hpo
      go_wp2_with fail
      all_goals first | (exfalso; have := HNEG.out; omega) | (generalize ((w3.setCell ⟨w.heap.size + 2, 0, none⟩ (.slice y.oa y.o.length y.oc)).setCell ⟨w.heap.size + 2, 1, none⟩ (.slice y.ta y.t.length y.tc)) = w9 at *; exact bodyPost_ret (v := .tuple #[.agg #[.slice y.oa y.o.length y.oc, .slice y.ta y.t.length y.tc], .int .i64 4]) (by simp [results, Tryz.results98, go_sem, e0, e1]) rfl HPo.out)
    · obtain ⟨q, rfl⟩ : ∃ q : Nat, n = (q : Int) := ⟨n.toNat, by omega⟩
      rw [Int.toNat_natCast] at HOE HOD
      have hq : q < x.o.length := by omega
      have HQ := Lib.hid hq
      obtain ⟨g, of, a1, a2, a3, a4⟩ := HDS.out w3 HFR.out.bel q hq
      have hqX : (q : Int) < (x.o.length : Int) := by omega
      have k4 := a4.c4
      rw [a1] at h0
      have HNEG : Hid ((0 : Int) ≤ 0) := Int.le_refl _
      generalize hrf2 : (x.o.getD q Dn.zero).rf = rq at HOE k4
      clear hrf2 a4 hn HDS
      by_cases hr0 : rq = 0
      · subst hr0
        have HOE2 : Hid (oe = 4) := by have := HOE.out; rw [if_pos (by omega)] at this; exact this
        have HOD2 : Hid (od = x.pl) := by have := HOD.out; rw [if_neg (by rw [HOE2.out]; decide)] at this; exact this
        obtain ⟨hA5, hD5, hB5⟩ := HFR.out.fin
        have e0 := hA5.cell 0 _ rfl
        have e1 := hA5.cell 1 _ rfl
        have hpo := HP.out y _ (by rw [HOD2.out]; exact HPL.out) hD5 hB5
        rw [HOE2.out] at hpo
        have HPo := Lib.hid hpo
        obtain ⟨r0, r1, r2, r3, r4⟩ := HFR.out.r.two
        obtain ⟨x0, x1, x2, x3, x4⟩ := HFR.out.wk.box.cc
        clear hA5 hD5 hB5 hpo
        go_wp2_with fail
        all_goals first | (exfalso; have := HNEG.out; omega) | (generalize ((w3.setCell ⟨w.heap.size + 2, 0, none⟩ (.slice y.oa y.o.length y.oc)).setCell ⟨w.heap.size + 2, 1, none⟩ (.slice y.ta y.t.length y.tc)) = w9 at *; exact bodyPost_ret (v := .tuple #[.agg #[.slice y.oa y.o.length y.oc, .slice y.ta y.t.length y.tc], .int .i64 4]) (by simp [results, Tryz.results98, go_sem, e0, e1]) rfl HPo.out)
      · have hr1 : (rq == 0) = false := by simpa using hr0
        rw [if_neg (by omega)] at HOE
        obtain ⟨s0, s1, s2, s3, s4⟩ := HXC.out _ HH1.out
        simp only [Nat.zero_add] at s0 s1 s2 s3 s4
        go_wp2_with fail
        refine (HMV.out w3).mono ?_
        rintro e w4 ⟨rfl, hb⟩
        replace HFR := Lib.hid (HFR.out.below hb)
        replace HH1 := Lib.hid (HH1.out.trans (hb.mono HH1.out.size))
        clear hb HMV s0 s1 s2 s3 s4 h0 k4 a1 a2 a3
        generalize movB f c = mb at *
        cases mb with
        | false =>
          have HOE2 : Hid (oe = 2) := by have := HOE.out; rw [if_pos rfl] at this; exact this
          have HOD2 : Hid (od = x.pl) := by have := HOD.out; rw [if_neg (by rw [HOE2.out]; decide)] at this; exact this
          obtain ⟨hA5, hD5, hB5⟩ := HFR.out.fin
          have e0 := hA5.cell 0 _ rfl
          have e1 := hA5.cell 1 _ rfl
          have hpo := HP.out y _ (by rw [HOD2.out]; exact HPL.out) hD5 hB5
          rw [HOE2.out] at hpo
          have HPo := Lib.hid hpo
          obtain ⟨r0, r1, r2, r3, r4⟩ := HFR.out.r.two
          obtain ⟨x0, x1, x2, x3, x4⟩ := HFR.out.wk.box.cc
          clear hA5 hD5 hB5 hpo
          go_wp2_with fail
          all_goals first | (exfalso; have := HNEG.out; omega) | (generalize ((w4.setCell ⟨w.heap.size + 2, 0, none⟩ (.slice y.oa y.o.length y.oc)).setCell ⟨w.heap.size + 2, 1, none⟩ (.slice y.ta y.t.length y.tc)) = w9 at *; exact bodyPost_ret (v := .tuple #[.agg #[.slice y.oa y.o.length y.oc, .slice y.ta y.t.length y.tc], .int .i64 2]) (by simp [results, Tryz.results98, go_sem, e0, e1]) rfl HPo.out)
        | true =>
          have HOE2 : Hid (oe = 0) := by have := HOE.out; rw [if_neg (by simp)] at this; exact this
          have hqy : q < y.o.length := by rw [HYO.out]; exact HQ.out
          obtain ⟨g3, b1, b2, b3, b4, b5, b6, b7⟩ := HFR.out.wk.own.descAt q hqy
          rw [← HYO.out] at HOD
          have HOD2 := HOD.out
          rw [if_pos HOE2.out] at HOD2
          replace HOD2 := Lib.hid HOD2
          have k2 := b4.c2
          have k3 := b4.c3
          have HF8 := Lib.hid (HFR.out.turn ((Below.refl (w.heap.size + 3) w4).setCell (p := ⟨g3, q * 5 + 2, none⟩) b6 (.int .i64 f)) (HFR.out.wk.putC b1 q hqy 2 (by omega) (.int .i64 f) ⟨(y.o.getD q Dn.zero).fi, (y.o.getD q Dn.zero).fl, f, (y.o.getD q Dn.zero).cu, (y.o.getD q Dn.zero).rf⟩ rfl))
          have hg8 : (y.o.set q ⟨(y.o.getD q Dn.zero).fi, (y.o.getD q Dn.zero).fl, f, (y.o.getD q Dn.zero).cu, (y.o.getD q Dn.zero).rf⟩).getD q Dn.zero = ⟨(y.o.getD q Dn.zero).fi, (y.o.getD q Dn.zero).fl, f, (y.o.getD q Dn.zero).cu, (y.o.getD q Dn.zero).rf⟩ := by rw [getD_get (by rw [List.length_set]; exact hqy), List.getElem_set_self]
          have HF9 := HF8.out.turn ((Below.refl (w.heap.size + 3) _).setCell (p := ⟨g3, q * 5 + 3, none⟩) b6 (.int .i64 c)) (HF8.out.wk.putC b1 q (by show q < (List.set _ _ _).length; rw [List.length_set]; exact hqy) 3 (by omega) (.int .i64 c) ⟨(y.o.getD q Dn.zero).fi, (y.o.getD q Dn.zero).fl, f, c, (y.o.getD q Dn.zero).rf⟩ (by show _ = (Dn.cells (List.getD (List.set _ _ _) _ _)).set _ _; rw [hg8]; rfl))
          simp only [List.set_set] at HF9
          replace HF9 := Lib.hid (HF9.below (Below.refl _ _).drew)
          have nO := HFR.out.wk.neO b1
          have nX : w.heap.size + 1 ≠ g3 := by omega
          obtain ⟨x0, x1, x2, x3, x4⟩ := HFR.out.wk.box.cc
          have hOA : y.oa = some ⟨g3, 0, none⟩ := b1
          simp only [hOA] at x0
          have hqI : (q : Int) < (y.o.length : Int) := by omega
          have b5q := b5 (q * 5 + 2)
          have b5r := b5 (q * 5 + 3)
          obtain ⟨s0, s1, s2, s3, s4⟩ := HXC.out _ HH1.out
          simp only [Nat.zero_add] at s0 s1 s2 s3 s4
          clear b4 b5 hg8 HF8 HFR b1 HOD
          generalize (y.o.getD q Dn.zero).f = zf at *
          generalize (y.o.getD q Dn.zero).cu = zc at *
          go_wp2_with fail
          go_region
          generalize hwB : (((w4.setCell ⟨g3, q * 5 + 2, none⟩ (.int .i64 f)).setCell ⟨g3, q * 5 + 3, none⟩ (.int .i64 c)).drew) = wB at *
          clear hwB x0 x1 x2 x3 x4 s0 s1 s2 s3 s4 k2 k3 b5q b5r
          obtain ⟨hA5, hD5, hB5⟩ := HF9.out.fin
          simp only [List.length_set, hOA] at hA5 hD5 hB5
          have e0 := hA5.cell 0 _ rfl
          have e1 := hA5.cell 1 _ rfl
          have hpo := HP.out _ _ (by rw [HOD2.out]; exact De.ext' rfl HPT.out) hD5 hB5
          rw [HOE2.out] at hpo
          simp only [List.length_set] at hpo
          have HPo := Lib.hid hpo
          obtain ⟨r0, r1, r2, r3, r4⟩ := HF9.out.r.two
          obtain ⟨x0, x1, x2, x3, x4⟩ := HF9.out.wk.box.cc
          simp only [List.length_set, hOA] at x0 x1
          clear hA5 hD5 hB5 hpo hOA
          go_wp2_with fail
          generalize ((wB.setCell ⟨w.heap.size + 2, 0, none⟩ (.slice (some ⟨g3, 0, none⟩) y.o.length y.oc)).setCell ⟨w.heap.size + 2, 1, none⟩ (.slice y.ta y.t.length y.tc)) = w9 at *
          exact bodyPost_ret (v := .tuple #[.agg #[.slice (some ⟨g3, 0, none⟩) y.o.length y.oc, .slice y.ta y.t.length y.tc], .int .i64 0]) (by simp [results, Tryz.results98, go_sem, e0, e1]) rfl HPo.out

end Go.Proofs.YtimhaidiclbnhaaGreat.Des
/- Variables that have descriptors, beside a tape. -/
set_option maxRecDepth 100000
set_option linter.unusedSimpArgs false
set_option linter.unusedVariables false
namespace Go.Proofs.YtimhaidiclbnhaaGreat.Des
open Go.ChangeShapes Go.WideShapes Go.ChangeAt Go.RowKit

theorem RowOf.blk {w : World} {a : Option Addr} {n cap : Nat} {cs : List Value} (h : RowOf w a n cap cs) {q : Addr} (hq : a = some q) : q.block < w.heap.size := by
  rcases h with ⟨h, _⟩ | ⟨g, o, h1, h2, _⟩
  · rw [h] at hq; cases hq
  · rw [h1] at hq; cases hq; exact h2
theorem DIn.blk {W : World} {x : Dv} (h : DIn W x) {b : Nat} (hb : DBlk x b) : b < W.heap.size := by
  rcases hb with ⟨q, h1, rfl⟩ | ⟨q, h1, rfl⟩ | ⟨z, hz, q, h1, rfl⟩
  · exact h.o.blk h1
  · exact h.t.blk h1
  · exact (h.e z hz).blk h1
theorem DIn.keepB {W W' : World} {x : Dv} (h : DIn W x) (hs : W.heap.size ≤ W'.heap.size) (hk : ∀ b, DBlk x b → W'.heap[b]? = W.heap[b]?) : DIn W' x :=
  ⟨h.o.keep hs fun g o e _ i => World.cell?_of_block (w := W) (a := ⟨g, i, none⟩) (hk g (Or.inl ⟨_, e, rfl⟩)),
   h.t.keep hs fun g o e _ i => World.cell?_of_block (w := W) (a := ⟨g, i, none⟩) (hk g (Or.inr (Or.inl ⟨_, e, rfl⟩))),
   fun y hy => (h.e y hy).keep hs fun g o e _ i => World.cell?_of_block (w := W) (a := ⟨g, i, none⟩) (hk g (Or.inr (Or.inr ⟨y, hy, _, e, rfl⟩)))⟩
/-- x may be read, and it lies in none of the blocks V -/
structure Vi (W : World) (V : List Nat) (x : Dv) : Prop where
  di : DIn W x
  out : ∀ b, DBlk x b → b ∉ V
theorem Vi.below {W W' : World} {V : List Nat} {x : Dv} (h : Vi W V x) (hb : Below W.heap.size W W') : Vi W' V x := ⟨h.di.below hb, h.out⟩
theorem Vi.tick {W W' : World} {V : List Nat} {x : Dv} {t : Nat} (h : Vi W V x) (hk : Tick t W W') (ht : t ∈ V) : Vi W' V x :=
  ⟨h.di.keepB (Nat.le_of_eq hk.size.symm) fun b hb => hk.block b (fun e => h.out b hb (e ▸ ht)), h.out⟩
theorem Vi.tock {W W' : World} {V : List Nat} {x : Dv} {t : Nat} (h : Vi W V x) (hk : Tock t W W') (ht : t ∈ V) : Vi W' V x :=
  ⟨h.di.keepB hk.size fun b hb => hk.block b (fun e => h.out b hb (e ▸ ht)) (h.di.blk hb), h.out⟩
theorem Vi.set {W : World} {V : List Nat} {x : Dv} {D : Nat} (h : Vi W V x) (hD : D ∈ V) (o : Nat) (v : Value) : Vi (W.setCell ⟨D, o, none⟩ v) V x :=
  ⟨h.di.keepB (by simp [World.setCell]) fun b hb => Below.heap_setCell W ⟨D, o, none⟩ v b (fun e => h.out b hb (e ▸ hD)), h.out⟩
theorem Vi.more {W : World} {V : List Nat} {x : Dv} (h : Vi W V x) (D : Nat) (hD : W.heap.size ≤ D) : Vi W (D :: V) x :=
  ⟨h.di, fun b hb hm => by
    rcases List.mem_cons.1 hm with rfl | hm
    · exact absurd (h.di.blk hb) (by omega)
    · exact h.out b hb hm⟩
/-- what a call answers lies in none of the blocks that its argument does not lie in -/
theorem DAns.vi {W W' : World} {V : List Nat} {x y : Dv} (h : DAns W x W' y) (hx : Vi W V x) (hV : ∀ b, b ∈ V → b < W.heap.size) : Vi W' V y :=
  ⟨h.di, fun b hb hm => by
    rcases h.blk b hb with h1 | h1
    · exact hx.out b h1 hm
    · have := hV b hm; omega⟩
theorem Bx.tick {W W' : World} {b t : Nat} {x : Dv} (h : Bx W b x) (hk : Tick t W W') (hne : b ≠ t) : Bx W' b x := h.same hk.size (hk.block b hne)
theorem Bx.tock {W W' : World} {b t : Nat} {x : Dv} (h : Bx W b x) (hk : Tock t W W') (hne : b ≠ t) : Bx W' b x := by
  have hb := hk.block b hne h.at'.hi
  refine ⟨⟨fun j u hj => (World.cell?_of_block (w := W) (a := ⟨b, 0 + j, none⟩) hb).trans (h.at'.r j u hj), fun j hj => ?_, Nat.lt_of_lt_of_le h.at'.hi hk.size⟩, by rw [hb]; exact h.ty⟩
  rw [World.cell?_of_block (w := W) (a := ⟨b, 0 + j, none⟩) hb, World.frozen?_of_block (w := W) (a := ⟨b, 0 + j, none⟩) hb]
  exact h.at'.t j hj
theorem Bx.put {W : World} {b : Nat} {x : Dv} (h : Bx W b x) (y : Dv) : Bx ((W.setCell ⟨b, 0, none⟩ (.slice y.oa y.o.length y.oc)).setCell ⟨b, 1, none⟩ (.slice y.ta y.t.length y.tc)) b y :=
  (h.setO y.oa y.oc y.o _ rfl).setT y.ta y.tc y.t _ rfl
theorem At.tick {W W' : World} {b t : Nat} {cs : List Value} (h : At W b cs) (hk : Tick t W W') (hne : b ≠ t) : At W' b cs := by
  have hb := hk.block b hne
  refine ⟨fun j u hj => (World.cell?_of_block (w := W) (a := ⟨b, 0 + j, none⟩) hb).trans (h.r j u hj), fun j hj => ?_, by rw [hk.size]; exact h.hi⟩
  rw [World.cell?_of_block (w := W) (a := ⟨b, 0 + j, none⟩) hb, World.frozen?_of_block (w := W) (a := ⟨b, 0 + j, none⟩) hb]
  exact h.t j hj
theorem At.tock {W W' : World} {b t : Nat} {cs : List Value} (h : At W b cs) (hk : Tock t W W') (hne : b ≠ t) : At W' b cs := by
  have hb := hk.block b hne h.hi
  refine ⟨fun j u hj => (World.cell?_of_block (w := W) (a := ⟨b, 0 + j, none⟩) hb).trans (h.r j u hj), fun j hj => ?_, Nat.lt_of_lt_of_le h.hi hk.size⟩
  rw [World.cell?_of_block (w := W) (a := ⟨b, 0 + j, none⟩) hb, World.frozen?_of_block (w := W) (a := ⟨b, 0 + j, none⟩) hb]
  exact h.t j hj
/-- the tape, when another block is written -/
theorem TP.set {w0 W : World} {t : Nat} {a : Option Addr} {len cap : Nat} (h : TP w0 t a len cap W) {D : Nat} (hD : w0.heap.size ≤ D) (hne : t ≠ D) (o : Nat) (v : Value) : TP w0 t a len cap (W.setCell ⟨D, o, none⟩ v) := by
  obtain ⟨k, h⟩ := h
  have hb : (W.setCell ⟨D, o, none⟩ v).heap[t]? = W.heap[t]? := Below.heap_setCell W ⟨D, o, none⟩ v t hne
  exact ⟨k, h.row, h.lo, by simpa [World.setCell] using h.hi, h.bel.setCell (p := ⟨D, o, none⟩) hD v, (World.cell?_of_block (w := W) (a := ⟨t, 0, none⟩) hb).trans h.c0, (World.cell?_of_block (w := W) (a := ⟨t, 1, none⟩) hb).trans h.c1, (World.frozen?_of_block (w := W) (a := ⟨t, 1, none⟩) hb).trans h.fz, h.kl, h.lm⟩
/-! the calls, with their values written out -/
theorem open_v (x : Dv) (p fi fl c : Int) (W : World) (h : DIn W x) (hz : DSz x) : Calls Tryz.prog 87 #[.agg #[.slice x.oa x.o.length x.oc, .slice x.ta x.t.length x.tc], .int .i64 p, .int .i64 fi, .int .i64 fl, .int .i64 c] W fun e w' => ∃ y : Dv, e = .returned (.tuple #[.agg #[.slice y.oa y.o.length y.oc, .slice y.ta y.t.length y.tc], .int .i64 (openF x.pl p fi fl c), .int .i64 (openE x.pl p fi fl c)]) ∧ y.pl = openD x.pl p fi fl c ∧ DAns W x w' y ∧ Below W.heap.size W w' :=
  (open_any x p fi fl c W h hz).mono fun e w' ⟨y, h1, h2, h3, h4⟩ => ⟨y, h1, h2, h3, h4⟩
theorem dup_v (x : Dv) (p f : Int) (W : World) (h : DIn W x) (hz : DSz x) : Calls Tryz.prog 113 #[.agg #[.slice x.oa x.o.length x.oc, .slice x.ta x.t.length x.tc], .int .i64 p, .int .i64 f] W fun e w' => ∃ y : Dv, e = .returned (.tuple #[.agg #[.slice y.oa y.o.length y.oc, .slice y.ta y.t.length y.tc], .int .i64 (dupF x.pl p f), .int .i64 (dupE x.pl p f)]) ∧ y.pl = dupD x.pl p f ∧ DAns W x w' y ∧ Below W.heap.size W w' :=
  (dup_any x p f W h hz).mono fun e w' ⟨y, h1, h2, h3, h4⟩ => ⟨y, h1, h2, h3, h4⟩
theorem close_v (x : Dv) (p f : Int) (W : World) (h : DIn W x) (hz : DSz x) : Calls Tryz.prog 89 #[.agg #[.slice x.oa x.o.length x.oc, .slice x.ta x.t.length x.tc], .int .i64 p, .int .i64 f] W fun e w' => ∃ y : Dv, e = .returned (.tuple #[.agg #[.slice y.oa y.o.length y.oc, .slice y.ta y.t.length y.tc], .bool (closeG x.pl p f), .int .i64 (numE x.pl p f)]) ∧ y.pl = closeD x.pl p f ∧ DAns W x w' y ∧ Below W.heap.size W w' :=
  (close_any x p f W h hz).mono fun e w' ⟨y, h1, h2, h3, h4⟩ => ⟨y, h1, h2, h3, h4⟩
theorem upd_v (x : Dv) (n fi fl f c rf : Int) (W : World) (h : DIn W x) (hz : DSz x) : Calls Tryz.prog 98 #[.agg #[.slice x.oa x.o.length x.oc, .slice x.ta x.t.length x.tc], .int .i64 n, .agg #[.int .i64 fi, .int .i64 fl, .int .i64 f, .int .i64 c, .int .i64 rf]] W fun e w' => ∃ y : Dv, e = .returned (.tuple #[.agg #[.slice y.oa y.o.length y.oc, .slice y.ta y.t.length y.tc], .int .i64 (updE x.pl n f c)]) ∧ y.pl = updD x.pl n f c ∧ DAns W x w' y ∧ Below W.heap.size W w' :=
  (upd_any x n fi fl f c rf W h hz).mono fun e w' ⟨y, h1, h2, h3, h4⟩ => ⟨y, h1, h2, h3, h4⟩
end Go.Proofs.YtimhaidiclbnhaaGreat.Des
