/- Fork. -/
import Derived.Test.YtflcbefomjlgmaaFk0
import Derived.Test.YtflcbefomjlgmaaDu
import Derived.Shelf.Spec.SlicesInsert
set_option linter.unusedSimpArgs false
set_option linter.unusedVariables false
namespace Go.Proofs.Ytflcbefomjlgmaa
open Go.ChangeShapes Go.WideShapes Go.ChangeAt Go.RowKit

theorem set_pl (t : List Tb) (i : Nat) (a : Option Addr) (c : Nat) (l : List Int) : (t.set i ⟨a, c, l⟩).map Tb.l = (t.map Tb.l).set i l := by rw [List.map_set]
set_option maxHeartbeats 8000000 in
theorem fork_any (x : Dv) (p q : Int) (w : World) (h : DIn w x) (hz : DSz x) :
    Calls Try.prog 15 #[dVal x, .int .i64 p, .int .i64 q] w (OutP w x (forkD x.pl p q) (fun v => .tuple #[v, .int .i64 (forkE x.pl p q)])) := by
  have HX := Lib.hid h
  have HC : Hid (∀ W, Below w.heap.size w W → Calls Try.prog 31 #[.agg #[.slice x.oa x.o.length x.oc, .slice x.ta x.t.length x.tc]] W fun e w' => ∃ y : Dv, e = .returned (.agg #[.slice y.oa y.o.length y.oc, .slice y.ta y.t.length y.tc]) ∧ y.pl = x.pl ∧ DOwn W.heap.size w' y ∧ Below W.heap.size W w') := fun W hb => clone_any x W (h.below hb) hz
  have HPR : Hid (∀ W z, Below w.heap.size w W → Calls Try.prog 32 #[.agg #[.slice x.oa x.o.length x.oc, .slice x.ta x.t.length x.tc], .int .i64 z] W (RetW (.int .i64 (procV x.pl z)) W)) := fun W z hb => process_any x z W (h.below hb) hz
  have HP : Hid (∀ (y : Dv) w', y.pl = forkD x.pl p q → DAns w x w' y → Below w.heap.size w w' → OutP w x (forkD x.pl p q) (fun v => .tuple #[v, .int .i64 (forkE x.pl p q)]) (.returned (.tuple #[.agg #[.slice y.oa y.o.length y.oc, .slice y.ta y.t.length y.tc], .int .i64 (forkE x.pl p q)])) w') := fun y w' h1 h2 h3 => ⟨y, rfl, h1, h2, h3⟩
  have HOE : Hid (forkE x.pl p q = if procV x.pl p ≠ 0 then procV x.pl p else if procV x.pl q ≠ 0 then procV x.pl q else if p = q then 2 else if anyB (tabAt x.pl q) = true then 5 else 0) := rfl
  have HOD : Hid (forkD x.pl p q = if forkE x.pl p q = 0 then ⟨bumps x.o (tabAt x.pl p), x.pl.t.set q.toNat (tabAt x.pl p)⟩ else x.pl) := rfl
  have HTB : Hid (∀ z, procV x.pl z = 0 → 0 ≤ z ∧ z < (x.t.length : Int) ∧ tabAt x.pl z = (x.t.getD z.toNat Tb.nil).l ∧ (tabAt x.pl z).length = 16 ∧ x.o.length ≤ 128 ∧ (∀ j, j < 16 → 0 ≤ (tabAt x.pl z).getD j 0 ∧ (tabAt x.pl z).getD j 0 ≤ x.o.length) ∧ ∀ i, i < x.o.length → 0 ≤ (x.o.getD i Dn.zero).rf ∧ (x.o.getD i Dn.zero).rf ≤ 128) := fun z hp => by
    obtain ⟨h1, h2, h3⟩ := procV_ok hp
    rw [pl_t] at h3
    have h4 := check_tab h1 z.toNat (by rw [pl_t]; omega)
    exact ⟨h2, h3, map_getD x.t z.toNat (by omega), h4.1, (check_len h1).2.2, h4.2, fun i hi => rf_bd h1 i hi⟩
  obtain ⟨W0, hW0⟩ : ∃ W0, W0 = (w.alloc (Obj.cells #[.slice x.oa x.o.length x.oc, .slice x.ta x.t.length x.tc] 29)).alloc (Obj.cells #[.slice none 0 0, .slice none 0 0] 29) := ⟨_, rfl⟩
  have hb0 : Below w.heap.size w W0 := by rw [hW0]; exact ((Below.refl _ w).alloc (Nat.le_refl _) _).alloc (by simp) _
  have hs0 : W0.heap.size = w.heap.size + 2 := by rw [hW0]; simp
  have hr0 : At W0 (w.heap.size + 1) [.slice none 0 0, .slice none 0 0] := by rw [hW0]; exact (At.new (w.alloc (Obj.cells #[.slice x.oa x.o.length x.oc, .slice x.ta x.t.length x.tc] 29)) [.slice none 0 0, .slice none 0 0] 29).cast (by simp)
  have hp0 : W0.cell? ⟨w.heap.size, 0, none⟩ = some (.slice x.oa x.o.length x.oc) := by rw [hW0]; simp
  have hp1 : W0.cell? ⟨w.heap.size, 1, none⟩ = some (.slice x.ta x.t.length x.tc) := by rw [hW0]; simp
  have HB0 := Lib.hid hb0
  have HS0 := Lib.hid hs0
  have HR0 := Lib.hid hr0
  have HP0 := Lib.hid hp0
  have HP1 := Lib.hid hp1
  clear hb0 hs0 hr0 h
  generalize OutP w x (forkD x.pl p q) (fun v => .tuple #[v, .int .i64 (forkE x.pl p q)]) = Post at *
  generalize forkD x.pl p q = od at *
  generalize forkE x.pl p q = oe at *
  unfold dVal
  generalize hpp : procV x.pl p = pp at *
  generalize hpq : procV x.pl q = pq at *
  have HPP := Lib.hid hpp
  have HPQ := Lib.hid hpq
  clear hpp hpq
  go_enter Try.func15, Try.ntmps15
  go_wp2_with fail
  rw [← hW0]
  refine (HC.out W0 HB0.out).mono ?_
  rintro e w1 ⟨y, rfl, hpl, hown, hb⟩
  have HFR : Hid (Fr w x (w1.alloc (Obj.cells #[.slice y.oa y.o.length y.oc, .slice y.ta y.t.length y.tc] 29)) (w.heap.size + 2) (w.heap.size + 1) w1.heap.size y) := Fr.start HP0.out HP1.out HR0.out HB0.out (Nat.lt_succ_self _) (Nat.lt_succ_self _) (by rw [HS0.out]; exact Nat.le_refl _) hown hb
  have HPL := Lib.hid hpl
  have hk0 : w1.cell? ⟨w.heap.size, 0, none⟩ = some (.slice x.oa x.o.length x.oc) := (hb.cell (p := ⟨w.heap.size, 0, none⟩) (by rw [HS0.out]; simp)).trans hp0
  have hk1 : w1.cell? ⟨w.heap.size, 1, none⟩ = some (.slice x.ta x.t.length x.tc) := (hb.cell (p := ⟨w.heap.size, 1, none⟩) (by rw [HS0.out]; simp)).trans hp1
  have hl1 : w.heap.size < w1.heap.size := by have := hb.size; rw [HS0.out] at this; omega
  have hl2 : w.heap.size + 2 ≤ w1.heap.size := by have := hb.size; rw [HS0.out] at this; omega
  obtain ⟨O, hO⟩ : ∃ O, O = w1.heap.size := ⟨_, rfl⟩
  clear hpl hown hb hW0 HC hp0 hp1 HB0 HS0 HR0 HP0 HP1
  go_upto_region 2 with (fail)
  generalize w1.alloc (Obj.cells #[.slice y.oa y.o.length y.oc, .slice y.ta y.t.length y.tc] 29) = w2 at *
  rw [← hO] at *
  clear hO hk0 hk1
  have hb3 : Below w2.heap.size w2 (w2.alloc (Obj.cells #[.int .i64 p, .int .i64 q] 3)) := (Below.refl _ _).alloc (Nat.le_refl _) _
  have HF3 := Lib.hid (HFR.out.below hb3)
  have hl3 : w2.heap.size < (w2.alloc (Obj.cells #[.int .i64 p, .int .i64 q] 3)).heap.size := by rw [alloc_size]; omega
  have hL0 : (w2.alloc (Obj.cells #[.int .i64 p, .int .i64 q] 3)).cell? ⟨w2.heap.size, 0, none⟩ = some (.int .i64 p) := by simp
  have hL1 : (w2.alloc (Obj.cells #[.int .i64 p, .int .i64 q] 3)).cell? ⟨w2.heap.size, 1, none⟩ = some (.int .i64 q) := by simp
  have HL : Hid ((w2.alloc (Obj.cells #[.int .i64 p, .int .i64 q] 3)).cell? ⟨w2.heap.size, 0, none⟩ = some (.int .i64 p) ∧ (w2.alloc (Obj.cells #[.int .i64 p, .int .i64 q] 3)).cell? ⟨w2.heap.size, 1, none⟩ = some (.int .i64 q) ∧ w2.heap.size < (w2.alloc (Obj.cells #[.int .i64 p, .int .i64 q] 3)).heap.size) := ⟨hL0, hL1, hl3⟩
  clear HFR hb3 hl3 hL0 hL1
  go_wp2_with fail
  generalize w2.alloc (Obj.cells #[.int .i64 p, .int .i64 q] 3) = w3 at *
  generalize w2.heap.size = L at *
  go_loopw [20] (fun v20 wr => ∃ k : Nat, k ≤ 2 ∧ v20 = .int .i64 k ∧ Hid (Fr w x wr (w.heap.size + 2) (w.heap.size + 1) O y) ∧ Hid (wr.cell? ⟨L, 0, none⟩ = some (.int .i64 p) ∧ wr.cell? ⟨L, 1, none⟩ = some (.int .i64 q) ∧ L < wr.heap.size) ∧ Hid ((1 ≤ k → pp = 0) ∧ (2 ≤ k → pq = 0))) (fun v20 _ => 10 - (intOf v20).toNat)
  case atStart => exact ⟨0, by omega, rfl, HF3, HL, ⟨fun h => by omega, fun h => by omega⟩⟩
  case round =>
    clear HF3 HL
    obtain ⟨k, hk, rfl, HFR, HL, HK⟩ := hrel
    have hk3 : k = 0 ∨ k = 1 ∨ k = 2 := by omega
    obtain ⟨l0, l1, l2⟩ := HL.out
    have p0 := HFR.out.p0
    have p1 := HFR.out.p1
    rcases hk3 with rfl | rfl | rfl
    · go_wp2_with fail
      refine (HPR.out wr p HFR.out.bel).mono ?_
      rintro e w4 ⟨rfl, hb⟩
      rw [HPP.out]
      replace HFR := Lib.hid (HFR.out.below hb)
      have HL2 : Hid (w4.cell? ⟨L, 0, none⟩ = some (.int .i64 p) ∧ w4.cell? ⟨L, 1, none⟩ = some (.int .i64 q) ∧ L < w4.heap.size) := ⟨(hb.cell (p := ⟨L, 0, none⟩) l2).trans l0, (hb.cell (p := ⟨L, 1, none⟩) l2).trans l1, Nat.lt_of_lt_of_le l2 hb.size⟩
      clear hb HL l0 l1 l2 p0 p1
      by_cases h0 : pp = 0
      · subst h0
        go_wp2_with fail
        go_roundw
        case rel => exact ⟨1, by omega, by first | rfl | go_num, HFR, HL2, ⟨fun _ => by first | rfl | trivial, fun h => by omega⟩⟩
        case measure => simp [intOf]
      · have h0b : (pp != 0) = true := by simpa using h0
        have HOE2 : Hid (oe = pp) := by have := HOE.out; rw [if_pos h0] at this; exact this
        have HOD2 : Hid (od = x.pl) := by have := HOD.out; rw [if_neg (by rw [HOE2.out]; exact h0)] at this; exact this
        obtain ⟨hA5, hD5, hB5⟩ := HFR.out.fin
        have e0 := hA5.cell 0 _ rfl
        have e1 := hA5.cell 1 _ rfl
        have hpo := HP.out y _ (by rw [HOD2.out]; exact HPL.out) hD5 hB5
        rw [HOE2.out] at hpo
        have HPo := Lib.hid hpo
        obtain ⟨r0, r1, r2, r3, r4⟩ := HFR.out.r.two
        obtain ⟨x0, x1, x2, x3, x4⟩ := HFR.out.wk.box.cc
        clear hA5 hD5 hB5 hpo
        go_wp2_with fail
        generalize ((w4.setCell ⟨w.heap.size + 1, 0, none⟩ (.slice y.oa y.o.length y.oc)).setCell ⟨w.heap.size + 1, 1, none⟩ (.slice y.ta y.t.length y.tc)) = w9 at *
        exact bodyPost_ret (v := .tuple #[.agg #[.slice y.oa y.o.length y.oc, .slice y.ta y.t.length y.tc], .int .i64 pp]) (by simp [results, Try.results15, go_sem, e0, e1]) rfl HPo.out
    · have hpp0 := HK.out.1 (by omega)
      go_wp2_with fail
      refine (HPR.out wr q HFR.out.bel).mono ?_
      rintro e w4 ⟨rfl, hb⟩
      rw [HPQ.out]
      replace HFR := Lib.hid (HFR.out.below hb)
      have HL2 : Hid (w4.cell? ⟨L, 0, none⟩ = some (.int .i64 p) ∧ w4.cell? ⟨L, 1, none⟩ = some (.int .i64 q) ∧ L < w4.heap.size) := ⟨(hb.cell (p := ⟨L, 0, none⟩) l2).trans l0, (hb.cell (p := ⟨L, 1, none⟩) l2).trans l1, Nat.lt_of_lt_of_le l2 hb.size⟩
      clear hb HL l0 l1 l2 p0 p1
      have HPP0 := Lib.hid hpp0
      clear hpp0
      by_cases h0 : pq = 0
      · subst h0
        go_wp2_with fail
        go_roundw
        case rel => exact ⟨2, by omega, by first | rfl | go_num, HFR, HL2, ⟨fun _ => HPP0.out, fun _ => by first | rfl | trivial⟩⟩
        case measure => simp [intOf]
      · have h0b : (pq != 0) = true := by simpa using h0
        have HOE2 : Hid (oe = pq) := by have := HOE.out; rw [if_neg (by rw [HPP0.out]; simp), if_pos h0] at this; exact this
        have HOD2 : Hid (od = x.pl) := by have := HOD.out; rw [if_neg (by rw [HOE2.out]; exact h0)] at this; exact this
        obtain ⟨hA5, hD5, hB5⟩ := HFR.out.fin
        have e0 := hA5.cell 0 _ rfl
        have e1 := hA5.cell 1 _ rfl
        have hpo := HP.out y _ (by rw [HOD2.out]; exact HPL.out) hD5 hB5
        rw [HOE2.out] at hpo
        have HPo := Lib.hid hpo
        obtain ⟨r0, r1, r2, r3, r4⟩ := HFR.out.r.two
        obtain ⟨x0, x1, x2, x3, x4⟩ := HFR.out.wk.box.cc
        clear hA5 hD5 hB5 hpo
        go_wp2_with fail
        generalize ((w4.setCell ⟨w.heap.size + 1, 0, none⟩ (.slice y.oa y.o.length y.oc)).setCell ⟨w.heap.size + 1, 1, none⟩ (.slice y.ta y.t.length y.tc)) = w9 at *
        exact bodyPost_ret (v := .tuple #[.agg #[.slice y.oa y.o.length y.oc, .slice y.ta y.t.length y.tc], .int .i64 pq]) (by simp [results, Try.results15, go_sem, e0, e1]) rfl HPo.out
    · have hpp0 := HK.out.1 (by omega)
      have hpq0 := HK.out.2 (by omega)
      rw [if_neg (by rw [hpp0]; simp), if_neg (by rw [hpq0]; simp)] at HOE
      have hTp := HTB.out p (by rw [HPP.out]; exact hpp0)
      have hTq := HTB.out q (by rw [HPQ.out]; exact hpq0)
      clear HTB HPR HL HK l0 l1 l2 p0 p1 hpp0 hpq0 HPP HPQ
      generalize tabAt x.pl p = Tp at *
      generalize tabAt x.pl q = Tq at *
      obtain ⟨q0, q1, q2, q3, q4, q5, q6⟩ := hTp
      obtain ⟨s0, s1, s2, s3, _, _, _⟩ := hTq
      obtain ⟨a, rfl⟩ : ∃ a : Nat, p = (a : Int) := ⟨p.toNat, by omega⟩
      obtain ⟨b, rfl⟩ : ∃ b : Nat, q = (b : Int) := ⟨q.toNat, by omega⟩
      rw [Int.toNat_natCast] at q2 s2 HOD
      have hyt : y.t.length = x.t.length := by have := congrArg (fun d => d.t.length) HPL.out; simpa [Dv.pl] using this
      have hyo : y.o = x.o := congrArg De.o HPL.out
      have HPT : Hid (y.t.map Tb.l = x.pl.t) := congrArg De.t HPL.out
      have hyTp : (y.t.getD a Tb.nil).l = Tp := by rw [← map_getD y.t a (by omega), HPT.out, q2]; exact map_getD x.t a (by omega)
      have hyTq : (y.t.getD b Tb.nil).l = Tq := by rw [← map_getD y.t b (by omega), HPT.out, s2]; exact map_getD x.t b (by omega)
      have HYO := Lib.hid hyo
      have HYP := Lib.hid hyTp
      have HYQ := Lib.hid hyTq
      have hat : a < y.t.length := by omega
      have hkt : b < y.t.length := by omega
      have hatI : (a : Int) < (y.t.length : Int) := by omega
      have hbtI : (b : Int) < (y.t.length : Int) := by omega
      have TPL := Lib.hid q3
      have TQL := Lib.hid s3
      have TPB := Lib.hid q5
      have HRFB : Hid (∀ i, i < y.o.length → 0 ≤ (y.o.getD i Dn.zero).rf ∧ (y.o.getD i Dn.zero).rf ≤ 128) := by rw [Hid, hyo]; exact q6
      have hyol : y.o.length ≤ 128 := by rw [hyo]; exact q4
      clear hyt hyo hyTp hyTq q2 s2 q3 s3 q5 q6
      by_cases hab : a = b
      · have habI : (a : Int) = (b : Int) := by omega
        have hab1 : ((a : Int) == (b : Int)) = true := by simp; omega
        have HOE2 : Hid (oe = 2) := by have := HOE.out; rw [if_pos habI] at this; exact this
        have HOD2 : Hid (od = x.pl) := by have := HOD.out; rw [if_neg (by rw [HOE2.out]; decide)] at this; exact this
        clear hab habI
        obtain ⟨hA5, hD5, hB5⟩ := HFR.out.fin
        have e0 := hA5.cell 0 _ rfl
        have e1 := hA5.cell 1 _ rfl
        have hpo := HP.out y _ (by rw [HOD2.out]; exact HPL.out) hD5 hB5
        rw [HOE2.out] at hpo
        have HPo := Lib.hid hpo
        obtain ⟨r0, r1, r2, r3, r4⟩ := HFR.out.r.two
        obtain ⟨x0, x1, x2, x3, x4⟩ := HFR.out.wk.box.cc
        clear hA5 hD5 hB5 hpo
        go_wp2_with fail
        generalize ((wr.setCell ⟨w.heap.size + 1, 0, none⟩ (.slice y.oa y.o.length y.oc)).setCell ⟨w.heap.size + 1, 1, none⟩ (.slice y.ta y.t.length y.tc)) = w9 at *
        exact bodyPost_ret (v := .tuple #[.agg #[.slice y.oa y.o.length y.oc, .slice y.ta y.t.length y.tc], .int .i64 2]) (by simp [results, Try.results15, go_sem, e0, e1]) rfl HPo.out
      · have hab1 : ((a : Int) == (b : Int)) = false := by simp; omega
        rw [if_neg (by omega)] at HOE
        obtain ⟨g, g2, a1, a2, a3, a4, a5, a6, a7, _, _, _, _, _⟩ := HFR.out.wk.own.tabAt b hkt (by rw [HYQ.out, TQL.out]; omega)
        have hrow := HFR.out.wk.own.in.tab b hkt
        rw [HYQ.out] at hrow a5 a6
        have hix := contains_any _ _ _ wr hrow (by rw [TQL.out]; omega)
        rw [a4] at hix
        generalize (y.t.getD b Tb.nil).c = cT at hix a5 a6 a7
        have HIX := Lib.hid hix
        obtain ⟨x0, x1, x2, x3, x4⟩ := HFR.out.wk.box.cc
        clear hix hrow a4
        rw [a1] at x1
        go_wp2_with fail
        refine HIX.out.mono ?_
        rintro e w6 ⟨rfl, hb⟩
        replace HFR := Lib.hid (HFR.out.below hb)
        clear hb HIX x0 x1 x2 x3 x4 a1 a2 a3 a5 a6 a7
        generalize hany : anyB Tq = an at *
        cases an with
        | true =>
          have HOE2 : Hid (oe = 5) := by have := HOE.out; rw [if_pos rfl] at this; exact this
          have HOD2 : Hid (od = x.pl) := by have := HOD.out; rw [if_neg (by rw [HOE2.out]; decide)] at this; exact this
          clear hany
          obtain ⟨hA5, hD5, hB5⟩ := HFR.out.fin
          have e0 := hA5.cell 0 _ rfl
          have e1 := hA5.cell 1 _ rfl
          have hpo := HP.out y _ (by rw [HOD2.out]; exact HPL.out) hD5 hB5
          rw [HOE2.out] at hpo
          have HPo := Lib.hid hpo
          obtain ⟨r0, r1, r2, r3, r4⟩ := HFR.out.r.two
          obtain ⟨x0, x1, x2, x3, x4⟩ := HFR.out.wk.box.cc
          clear hA5 hD5 hB5 hpo
          go_wp2_with fail
          generalize ((w6.setCell ⟨w.heap.size + 1, 0, none⟩ (.slice y.oa y.o.length y.oc)).setCell ⟨w.heap.size + 1, 1, none⟩ (.slice y.ta y.t.length y.tc)) = w9 at *
          exact bodyPost_ret (v := .tuple #[.agg #[.slice y.oa y.o.length y.oc, .slice y.ta y.t.length y.tc], .int .i64 5]) (by simp [results, Try.results15, go_sem, e0, e1]) rfl HPo.out
        | false =>
          have HOE2 : Hid (oe = 0) := by have := HOE.out; rw [if_neg (by simp)] at this; exact this
          have HOD2 := HOD.out
          rw [if_pos HOE2.out, ← HYO.out] at HOD2
          replace HOD2 := Lib.hid HOD2
          clear hany HOE HOD
          obtain ⟨g4, g5, c1, c2, c3, c4, c5, c6, c7, c8, c9, c10, c11, c12⟩ := HFR.out.wk.own.tabAt b hkt (by rw [HYQ.out, TQL.out]; omega)
          obtain ⟨g4', g6, d1, d2, d3, d4, d5, d6, d7, d8, d9, d10, d11, d12⟩ := HFR.out.wk.own.tabAt a hat (by rw [HYP.out, TPL.out]; omega)
          rw [c1] at d1
          cases d1
          obtain ⟨ci, hci⟩ : ∃ ci, (y.t.getD b Tb.nil).c = ci := ⟨_, rfl⟩
          obtain ⟨cj, hcj⟩ : ∃ cj, (y.t.getD a Tb.nil).c = cj := ⟨_, rfl⟩
          rw [HYQ.out, hci] at c5 c6
          rw [HYP.out, hcj] at d5 d6
          rw [hci] at c7
          rw [hcj] at d7
          obtain ⟨wC, hrun, hwkC, hbC⟩ := copy_tab (cj := cj) HFR.out.wk.drew b a hkt hat c4 d4 hci (by rw [HYQ.out]; exact TQL.out) Tp HYP.out TPL.out c10
          have HRUN := Lib.hid hrun
          have HFC := Lib.hid ((HFR.out.below (Below.refl _ _).drew).turn hbC hwkC)
          obtain ⟨x0, x1, x2, x3, x4⟩ := HFR.out.wk.box.cc
          rw [c1] at x1
          have htqI : (Tq.length : Int) = 16 := by rw [TQL.out]; rfl
          rw [TQL.out] at c5 c6
          rw [TPL.out] at d5 d6
          clear hrun hwkC hbC c4 d4 hci hcj c8 c9 d8 d9 HFR htqI
          go_wp2_with fail
          go_region_law (refine step_copy_runI rfl (.tmp 47) (.tmp 52) 22 22 rfl (.slice (some ⟨g5, 0, none⟩) 16 ci) (.slice (some ⟨g6, 0, none⟩) 16 cj) (by simp [Act.eval, Act.put]) (by simp [Act.eval, Act.put]) (HRUN.out _) ?_)
          all_goals
            clear HRUN x0 x1 x2 x3 x4 c5 d5
            have hbt : b < (y.t.set b ⟨some ⟨g5, 0, none⟩, ci, Tp⟩).length := by rw [List.length_set]; exact hkt
            have hgs : (y.t.set b ⟨some ⟨g5, 0, none⟩, ci, Tp⟩).getD b Tb.nil = ⟨some ⟨g5, 0, none⟩, ci, Tp⟩ := getD_set_self hkt
            obtain ⟨h4, h5, f1, f2, f3, f4, f5, f6, f7, f8, f9, f10, f11, f12⟩ := HFC.out.wk.own.tabAt b hbt (by show 0 < ((y.t.set b ⟨some ⟨g5, 0, none⟩, ci, Tp⟩).getD b Tb.nil).l.length; rw [hgs]; show 0 < Tp.length; rw [TPL.out]; omega)
            simp only [hgs] at f4 f5 f6 f7
            cases f4
            have f1' := c1.symm.trans f1
            cases f1'
            clear f1
            obtain ⟨x0, x1, x2, x3, x4⟩ := HFC.out.wk.box.cc
            simp only [List.length_set, c1] at x1
            clear hgs hbt f8 f9
            go_wp2_with fail
            clear x0 x1 x2 x3 x4 f5 f6 f7
            go_loopw [60] (fun v60 wr => ∃ i : Nat, i ≤ 16 ∧ v60 = .int .i64 i ∧ Hid (Fr w x wr (w.heap.size + 2) (w.heap.size + 1) O ⟨y.oa, y.oc, bumps y.o (Tp.take i), y.ta, y.tc, y.t.set b ⟨some ⟨g5, 0, none⟩, ci, Tp⟩⟩)) (fun v60 _ => 100 - (intOf v60).toNat)
            case atStart => exact ⟨0, by omega, rfl, HFC⟩
            case round =>
              clear HFC
              obtain ⟨i, hi, rfl, HFI⟩ := hrel
              obtain ⟨x0, x1, x2, x3, x4⟩ := HFI.out.wk.box.cc
              simp only [List.length_set, c1] at x1
              rw [bumps_len] at x0
              have hbt : b < (y.t.set b ⟨some ⟨g5, 0, none⟩, ci, Tp⟩).length := by rw [List.length_set]; exact hkt
              have hgs : (y.t.set b ⟨some ⟨g5, 0, none⟩, ci, Tp⟩).getD b Tb.nil = ⟨some ⟨g5, 0, none⟩, ci, Tp⟩ := getD_set_self hkt
              by_cases hlt : i < 16
              · obtain ⟨h4, h5, d1, d2, d3, d4, d5, d6, d7, d8, d9, d10, d11, d12⟩ := HFI.out.wk.own.tabAt b hbt (by show 0 < ((y.t.set b ⟨some ⟨g5, 0, none⟩, ci, Tp⟩).getD b Tb.nil).l.length; rw [hgs]; show 0 < Tp.length; rw [TPL.out]; omega)
                simp only [hgs] at d4 d5 d6 d7 d8
                cases d4
                have d8i := d8 i (by rw [TPL.out]; exact hlt)
                have hzb := TPB.out i hlt
                have HTK := Lib.hid (take_pref (l := Tp) (j := i) (by rw [TPL.out]; exact hlt))
                have HSN := Lib.hid (bumps_snoc y.o (Tp.take i) (Tp.getD i 0))
                have hli : (i : Int) < (Tp.length : Int) := by rw [TPL.out]; omega
                have hli6 : (i : Int) < 16 := by omega
                clear d1 d2 d3 d5 d8 d9 d12 hgs hbt
                generalize Tp.getD i 0 = z at *
                obtain ⟨z0, z1⟩ := hzb
                by_cases hz0 : z = 0
                · subst hz0
                  have HFN : Hid (Fr w x wr (w.heap.size + 2) (w.heap.size + 1) O ⟨y.oa, y.oc, bumps y.o (Tp.take (i + 1)), y.ta, y.tc, y.t.set b ⟨some ⟨g5, 0, none⟩, ci, Tp⟩⟩) := by
                    rw [HTK.out, HSN.out, if_neg (by decide)]; exact HFI
                  go_wp2_with fail
                  go_roundw
                  case rel => exact ⟨i + 1, by omega, by go_num, HFN⟩
                  case measure => simp [intOf]; omega
                · obtain ⟨m, hm⟩ : ∃ m : Nat, z = (m : Int) + 1 := ⟨(z - 1).toNat, by omega⟩
                  subst hm
                  have hmo : m < y.o.length := by rw [HYO.out]; omega
                  have hmb : m < (bumps y.o (Tp.take i)).length := by rw [bumps_len]; exact hmo
                  obtain ⟨g3, b1, b2, b3, b4, b5, b6, b7⟩ := HFI.out.wk.own.descAt m hmb
                  have k4 := b4.c4
                  have hrb := bumps_rf y.o (Tp.take i) m hmo
                  have hrx := HRFB.out m hmo
                  have htl : (Tp.take i).length ≤ 16 := by rw [List.length_take]; omega
                  have HFN : Hid (Fr w x (wr.setCell ⟨g3, m * 5 + 4, none⟩ (.int .i64 (((bumps y.o (Tp.take i)).getD m Dn.zero).rf + 1))) (w.heap.size + 2) (w.heap.size + 1) O ⟨y.oa, y.oc, bumps y.o (Tp.take (i + 1)), y.ta, y.tc, y.t.set b ⟨some ⟨g5, 0, none⟩, ci, Tp⟩⟩) := by
                    rw [HTK.out, HSN.out, if_pos (by omega), show ((m : Int) + 1 - 1).toNat = m by omega]
                    exact HFI.out.turn ((Below.refl (w.heap.size + 2) wr).setCell (p := ⟨g3, m * 5 + 4, none⟩) b6 _) (HFI.out.wk.putC b1 m hmb 4 (by omega) _ (bump ((bumps y.o (Tp.take i)).getD m Dn.zero) (((bumps y.o (Tp.take i)).getD m Dn.zero).rf + 1)) rfl)
                  have hOA : y.oa = some ⟨g3, 0, none⟩ := b1
                  have nO := HFI.out.wk.neO b1
                  simp only [hOA] at x0
                  have b5q := b5 (m * 5 + 4)
                  have hmI : (m : Int) < (y.o.length : Int) := by omega
                  have hw1 : IntKind.i64.wrap ((m : Int) + 1 - 1) = (m : Int) := by
                    rw [show (m : Int) + 1 - 1 = m from by omega]
                    exact IntWalk.i64_in _ (by omega)
                  rw [bumps_len] at b2
                  simp only at b2 b3
                  have hr0 : 0 ≤ ((bumps y.o (Tp.take i)).getD m Dn.zero).rf := by omega
                  have hr1 : ((bumps y.o (Tp.take i)).getD m Dn.zero).rf ≤ 200 := by omega
                  clear b4 b5 hrb hrx htl hmb HFI b1 hz0
                  generalize ((bumps y.o (Tp.take i)).getD m Dn.zero).rf = rf at *
                  go_wp2_with fail
                  go_roundw
                  case rel => exact ⟨i + 1, by omega, by go_num, HFN⟩
                  case measure => simp [intOf]; omega
              · obtain rfl : i = 16 := by omega
                have htt : Tp.take 16 = Tp := List.take_of_length_le (by rw [TPL.out]; exact Nat.le_refl _)
                rw [htt] at HFI
                have htl : (Tp.length : Int) = 16 := by rw [TPL.out]; rfl
                clear htt hgs hbt
                obtain ⟨hA5, hD5, hB5⟩ := HFI.out.fin
                simp only [List.length_set, bumps_len, c1] at hA5 hD5 hB5
                have e0 := hA5.cell 0 _ rfl
                have e1 := hA5.cell 1 _ rfl
                have hpo := HP.out _ _ (by rw [HOD2.out]; exact De.ext' rfl (by show (y.t.set b _).map Tb.l = _; rw [set_pl, HPT.out])) hD5 hB5
                rw [HOE2.out] at hpo
                simp only [List.length_set, bumps_len] at hpo
                have HPo := Lib.hid hpo
                obtain ⟨r0, r1, r2, r3, r4⟩ := HFI.out.r.two
                clear hA5 hD5 hB5 hpo HFI c1
                go_wp2_with fail
                generalize ((wr.setCell ⟨w.heap.size + 1, 0, none⟩ (.slice y.oa y.o.length y.oc)).setCell ⟨w.heap.size + 1, 1, none⟩ (.slice (some ⟨g4, 0, none⟩) y.t.length y.tc)) = w9 at *
                exact bodyPost_ret (v := .tuple #[.agg #[.slice y.oa y.o.length y.oc, .slice (some ⟨g4, 0, none⟩) y.t.length y.tc], .int .i64 0]) (by simp [results, Try.results15, go_sem, e0, e1]) rfl HPo.out
end Go.Proofs.Ytflcbefomjlgmaa
