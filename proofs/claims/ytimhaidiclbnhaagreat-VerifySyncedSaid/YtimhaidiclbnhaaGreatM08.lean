/- Layer 46, shared texts of this seat, part 08. -/
import Derived.Test.YtimhaidiclbnhaaGreatM07
/- Close. -/
set_option maxRecDepth 100000
set_option linter.unusedSimpArgs false
set_option linter.unusedVariables false
namespace Go.Proofs.YtimhaidiclbnhaaGreat.Des
open Go.ChangeShapes Go.WideShapes Go.ChangeAt Go.RowKit

theorem trim_drop (o : List Dn) (a : Dn) (h : a.rf = 0) : trim (o ++ [a]) = trim o := by
  unfold trim
  rw [List.reverse_append]
  show (trimR (a :: o.reverse)).reverse = _
  unfold trimR
  rw [if_pos h]
  cases o.reverse <;> rfl
theorem trim_keep (o : List Dn) (a : Dn) (h : a.rf ≠ 0) : trim (o ++ [a]) = o ++ [a] := by
  unfold trim
  rw [List.reverse_append]
  show (trimR (a :: o.reverse)).reverse = _
  unfold trimR
  rw [if_neg h, List.reverse_cons, List.reverse_reverse]
theorem take_last (o : List Dn) (m : Nat) (hm : m < o.length) : o.take (m + 1) = o.take m ++ [o.getD m Dn.zero] := by
  rw [List.take_add_one, getD_get hm]
  simp [List.getElem?_eq_getElem hm]
theorem oflat_take (o : List Dn) (m : Nat) : (oflat o).take (m * 5) = oflat (o.take m) := by
  induction o generalizing m with
  | nil => simp [oflat]
  | cons a r ih =>
    cases m with
    | zero => simp [oflat]
    | succ m =>
      have e : oflat (a :: r) = a.cells ++ oflat r := rfl
      have e2 : oflat ((a :: r).take (m + 1)) = a.cells ++ oflat (r.take m) := rfl
      rw [e, e2, List.take_append, show a.cells.length = 5 from rfl, List.take_of_length_le (by rw [show a.cells.length = 5 from rfl]; omega), show (m + 1) * 5 - 5 = m * 5 by omega, ih]
/-- a row of one's own, made shorter -/
theorem own_shrink {W : World} {B n cap : Nat} {a : Option Addr} {o : List Dn} (h : W.ownsRow B 126 5 (.slice a n cap) n (oflat o)) (hl : o.length = n) (m : Nat) (hm : m ≤ n) (h0 : 0 < n) : W.ownsRow B 126 5 (.slice a m cap) m (oflat (o.take m)) := by
  refine ⟨by rw [oflat_len, List.length_take]; congr 1; omega, ?_⟩
  rcases h.2 with ⟨hv, hn⟩ | ⟨g, cap', cur, hv, h1, h2, h3, h4, h5, h6⟩
  · omega
  · cases hv
    refine Or.inr ⟨g, cap, cur, rfl, h1, h2, by omega, h4, h5, ?_⟩
    have h7 := congrArg (List.take (m * 5)) h6
    rw [List.take_take, oflat_take, Nat.min_eq_left (Nat.mul_le_mul_right 5 hm)] at h7
    exact h7
def lenAt (W : World) (O : Nat) : Nat := match W.cell? ⟨O, 0, none⟩ with | some (.slice _ n _) => n | _ => 0
theorem lenAt_of {W : World} {O n c : Nat} {a : Option Addr} (h : W.cell? ⟨O, 0, none⟩ = some (.slice a n c)) : lenAt W O = n := by unfold lenAt; rw [h]

set_option maxHeartbeats 8000000 in
theorem close_any (x : Dv) (p f : Int) (w : World) (h : DIn w x) (hz : DSz x) :
    Calls Tryz.prog 89 #[dVal x, .int .i64 p, .int .i64 f] w (OutP w x (closeD x.pl p f) (fun v => .tuple #[v, .bool (closeG x.pl p f), .int .i64 (numE x.pl p f)])) := by
  have HX := Lib.hid h
  have HC : Hid (∀ W, Below w.heap.size w W → Calls Tryz.prog 116 #[.agg #[.slice x.oa x.o.length x.oc, .slice x.ta x.t.length x.tc]] W fun e w' => ∃ y : Dv, e = .returned (.agg #[.slice y.oa y.o.length y.oc, .slice y.ta y.t.length y.tc]) ∧ y.pl = x.pl ∧ DOwn W.heap.size w' y ∧ Below W.heap.size W w') := fun W hb => clone_any x W (h.below hb) hz
  have HNU : Hid (∀ W, Below w.heap.size w W → Calls Tryz.prog 122 #[.agg #[.slice x.oa x.o.length x.oc, .slice x.ta x.t.length x.tc], .int .i64 p, .int .i64 f] W (RetW (.tuple #[.int .i64 (numV x.pl p f), .int .i64 (numE x.pl p f)]) W)) := fun W hb => number_any x p f W (h.below hb) hz
  have HP : Hid (∀ (y : Dv) w', y.pl = closeD x.pl p f → DAns w x w' y → Below w.heap.size w w' → OutP w x (closeD x.pl p f) (fun v => .tuple #[v, .bool (closeG x.pl p f), .int .i64 (numE x.pl p f)]) (.returned (.tuple #[.agg #[.slice y.oa y.o.length y.oc, .slice y.ta y.t.length y.tc], .bool (closeG x.pl p f), .int .i64 (numE x.pl p f)])) w') := fun y w' h1 h2 h3 => ⟨y, rfl, h1, h2, h3⟩
  have HOG : Hid (closeG x.pl p f = (decide (numE x.pl p f = 0) && decide ((x.o.getD (numV x.pl p f).toNat Dn.zero).rf - 1 ≤ 0))) := rfl
  have HOD : Hid (closeD x.pl p f = if numE x.pl p f = 0 then ⟨if (x.o.getD (numV x.pl p f).toNat Dn.zero).rf - 1 ≤ 0 then trim (x.o.set (numV x.pl p f).toNat Dn.zero) else bumpL x.o (numV x.pl p f).toNat (-1), setE x.pl.t p.toNat f.toNat 0⟩ else x.pl) := rfl
  have HTB : Hid (numE x.pl p f = 0 → 0 ≤ p ∧ p < (x.t.length : Int) ∧ 0 ≤ f ∧ f < 16 ∧ tabAt x.pl p = (x.t.getD p.toNat Tb.nil).l ∧ (tabAt x.pl p).length = 16 ∧ x.o.length ≤ 128 ∧ ∃ q : Nat, q < x.o.length ∧ numV x.pl p f = (q : Int) ∧ 0 ≤ (x.o.getD q Dn.zero).rf ∧ (x.o.getD q Dn.zero).rf ≤ 128) := fun hp => by
    obtain ⟨h1, h2, h3, f1, f2, q, h5, h6, _⟩ := num_ok hp
    rw [pl_t] at h3
    have h4 := check_tab h1 p.toNat (by rw [pl_t]; omega)
    have h7 := rf_bd h1 q h5
    exact ⟨h2, h3, f1, f2, map_getD x.t p.toNat (by omega), h4.1, (check_len h1).2.2, q, h5, h6, h7.1, h7.2⟩
  obtain ⟨W0, hW0⟩ : ∃ W0, W0 = (w.alloc (Obj.cells #[.slice x.oa x.o.length x.oc, .slice x.ta x.t.length x.tc] 83)).alloc (Obj.cells #[.slice none 0 0, .slice none 0 0] 83) := ⟨_, rfl⟩
  have hb0 : Below w.heap.size w W0 := by rw [hW0]; exact ((Below.refl _ w).alloc (Nat.le_refl _) _).alloc (by simp) _
  have hs0 : W0.heap.size = w.heap.size + 2 := by rw [hW0]; simp
  have hr0 : At W0 (w.heap.size + 1) [.slice none 0 0, .slice none 0 0] := by rw [hW0]; exact (At.new (w.alloc (Obj.cells #[.slice x.oa x.o.length x.oc, .slice x.ta x.t.length x.tc] 83)) [.slice none 0 0, .slice none 0 0] 83).cast (by simp)
  have hp0 : W0.cell? ⟨w.heap.size, 0, none⟩ = some (.slice x.oa x.o.length x.oc) := by rw [hW0]; simp
  have hp1 : W0.cell? ⟨w.heap.size, 1, none⟩ = some (.slice x.ta x.t.length x.tc) := by rw [hW0]; simp
  have HB0 := Lib.hid hb0
  have HS0 := Lib.hid hs0
  have HR0 := Lib.hid hr0
  have HP0 := Lib.hid hp0
  have HP1 := Lib.hid hp1
  clear hb0 hs0 hr0 h
  generalize OutP w x (closeD x.pl p f) (fun v => .tuple #[v, .bool (closeG x.pl p f), .int .i64 (numE x.pl p f)]) = Post at *
  generalize closeD x.pl p f = od at *
  generalize closeG x.pl p f = og at *
  generalize numE x.pl p f = ne at *
  generalize numV x.pl p f = nv at *
  generalize tabAt x.pl p = T at *
  unfold dVal
  go_enter Tryz.func89, Tryz.ntmps89
  go_wp2_with fail
  rw [← hW0]
  refine (HC.out W0 HB0.out).mono ?_
  rintro e w1 ⟨y, rfl, hpl, hown, hb⟩
  have HFR : Hid (Fr w x (w1.alloc (Obj.cells #[.slice y.oa y.o.length y.oc, .slice y.ta y.t.length y.tc] 83)) (w.heap.size + 2) (w.heap.size + 1) w1.heap.size y) := Fr.start HP0.out HP1.out HR0.out HB0.out (Nat.lt_succ_self _) (Nat.lt_succ_self _) (by rw [HS0.out]; exact Nat.le_refl _) hown hb
  have HPL := Lib.hid hpl
  have hk0 : w1.cell? ⟨w.heap.size, 0, none⟩ = some (.slice x.oa x.o.length x.oc) := (hb.cell (p := ⟨w.heap.size, 0, none⟩) (by rw [HS0.out]; simp)).trans hp0
  have hk1 : w1.cell? ⟨w.heap.size, 1, none⟩ = some (.slice x.ta x.t.length x.tc) := (hb.cell (p := ⟨w.heap.size, 1, none⟩) (by rw [HS0.out]; simp)).trans hp1
  have hl1 : w.heap.size < w1.heap.size := by have := hb.size; rw [HS0.out] at this; omega
  have hl2 : w.heap.size + 2 ≤ w1.heap.size := by have := hb.size; rw [HS0.out] at this; omega
  obtain ⟨O, hO⟩ : ∃ O, O = w1.heap.size := ⟨_, rfl⟩
  clear hpl hown hb hW0 HC hp0 hp1 HB0 HS0 HR0 HP0 HP1
  go_wp2_with fail
  generalize w1.alloc (Obj.cells #[.slice y.oa y.o.length y.oc, .slice y.ta y.t.length y.tc] 83) = w2 at *
  rw [← hO] at *
  clear hO hk0 hk1
  refine (HNU.out w2 HFR.out.bel).mono ?_
  rintro e w3 ⟨rfl, hb⟩
  replace HFR := Lib.hid (HFR.out.below hb)
  clear hb HNU
  by_cases hne : ne = 0
  · subst hne
    obtain ⟨q0, q1, f0, f1, q2, q3, q4, q, q5, q6, q7, q8⟩ := HTB.out rfl
    obtain ⟨k, rfl⟩ : ∃ k : Nat, p = (k : Int) := ⟨p.toNat, by omega⟩
    obtain ⟨j, rfl⟩ : ∃ j : Nat, f = (j : Int) := ⟨f.toNat, by omega⟩
    rw [Int.toNat_natCast] at q2
    have Q2 := Lib.hid q2
    have Q3 := Lib.hid q3
    subst q6
    have HQ : Hid (q < x.o.length) := q5
    have HRF : Hid (0 ≤ (x.o.getD q Dn.zero).rf ∧ (x.o.getD q Dn.zero).rf ≤ 128) := ⟨q7, q8⟩
    rw [if_pos rfl, Int.toNat_natCast, Int.toNat_natCast, Int.toNat_natCast] at HOD
    rw [Int.toNat_natCast] at HOG
    clear q2 q3 q5 q7 q8
    have hyt : y.t.length = x.t.length := by have := congrArg (fun d => d.t.length) HPL.out; simpa [Dv.pl] using this
    have hyo : y.o = x.o := congrArg De.o HPL.out
    have HPT : Hid (y.t.map Tb.l = x.pl.t) := congrArg De.t HPL.out
    have hyT : (y.t.getD k Tb.nil).l = T := by rw [← map_getD y.t k (by omega), HPT.out, Q2.out]; exact map_getD x.t k (by omega)
    have HYT := Lib.hid hyt
    have HYO := Lib.hid hyo
    have HYTT := Lib.hid hyT
    have hkt : k < y.t.length := by omega
    have q1y : (k : Int) < (y.t.length : Int) := by omega
    clear hyt hyo hyT
    have hyT := HYTT.out
    have q3 := Q3.out
    have hj16 : j < 16 := by omega
    obtain ⟨g4, g5, c1, c2, c3, c4, c5, c6, c7, c8, c9, c10, c11, c12⟩ := HFR.out.wk.own.tabAt k hkt (by rw [hyT, q3]; omega)
    rw [hyT] at c5 c6 c8
    have c8j := c8 j (by omega)
    generalize hcT : (y.t.getD k Tb.nil).c = cT2 at c5 c6 c7
    generalize T.getD j 0 = zj at c8j
    clear hcT
    have c9j := c9 j
    have hjT : (j : Int) < (T.length : Int) := by omega
    have hqy : q < y.o.length := by rw [HYO.out]; exact HQ.out
    obtain ⟨g3, b1, b2, b3, b4, b5, b6, b7⟩ := HFR.out.wk.own.descAt q hqy
    rw [← HYO.out] at HRF HOG HOD
    have hrf0 := HRF.out
    have k4 := b4.c4
    have HF8 := Lib.hid (HFR.out.turn ((Below.refl (w.heap.size + 2) w3).setCell (p := ⟨g5, j, none⟩) c10 (.int .i64 0)) (HFR.out.wk.putT k hkt c4 j 0))
    have HF9 := Lib.hid (HF8.out.turn ((Below.refl (w.heap.size + 2) _).setCell (p := ⟨g3, q * 5 + 4, none⟩) b6 (.int .i64 ((y.o.getD q Dn.zero).rf - 1))) (HF8.out.wk.putC b1 q hqy 4 (by omega) (.int .i64 ((y.o.getD q Dn.zero).rf - 1)) (bump (y.o.getD q Dn.zero) ((y.o.getD q Dn.zero).rf - 1)) rfl))
    have nT := HFR.out.wk.neT k hkt c4
    have nO := HFR.out.wk.neO b1
    have nTO : g3 ≠ g5 := by
      have h1 := HFR.out.wk.own.o
      have h2 := HFR.out.wk.own.e _ (List.getElem_mem hkt)
      rw [b1] at h1
      have c4' := c4
      rw [getD_get hkt] at c4'
      unfold Tb.val at h2
      rw [c4'] at h2
      exact own_ne h1 h2 (by decide)
    obtain ⟨x0, x1, x2, x3, x4⟩ := HFR.out.wk.box.cc
    have hOA : y.oa = some ⟨g3, 0, none⟩ := b1
    simp only [c1, hOA] at x0 x1
    have hqI : (q : Int) < (y.o.length : Int) := by omega
    have b5q := b5 (q * 5 + 4)
    have HBU : Hid (bump (y.o.getD q Dn.zero) ((y.o.getD q Dn.zero).rf - 1) = bump (y.o.getD q Dn.zero) ((y.o.getD q Dn.zero).rf + -1)) := rfl
    have HOB : Hid (bumpL y.o q (-1) = y.o.set q (bump (y.o.getD q Dn.zero) ((y.o.getD q Dn.zero).rf - 1))) := rfl
    have hrb : (bump (y.o.getD q Dn.zero) ((y.o.getD q Dn.zero).rf - 1)).rf = (y.o.getD q Dn.zero).rf - 1 := rfl
    generalize hbu : bump (y.o.getD q Dn.zero) ((y.o.getD q Dn.zero).rf - 1) = bu at *
    clear hbu HBU
    generalize hrfv : (y.o.getD q Dn.zero).rf = rf at *
    have HRB := Lib.hid hrb
    clear hrb hrfv b4 b5 c8 c9 hyT q3 HFR HF8
    obtain ⟨hrf0, hrf1⟩ := hrf0
    have hws : IntKind.i64.wrap (rf - 1) = rf - 1 := IntWalk.i64_in _ (by omega)
    go_upto_region 7 with (fail)
    generalize hwB : ((w3.setCell ⟨g5, j, none⟩ (.int .i64 0)).setCell ⟨g3, q * 5 + 4, none⟩ (.int .i64 (rf - 1))) = wB at *
    clear hwB x0 x1 x2 x3 x4 k4 c5 c8j c9j b5q hws
    have hq9 : q < (y.o.set q bu).length := by rw [List.length_set]; exact hqy
    obtain ⟨g3', b1', b2', b3', b4', b5', b6', b7'⟩ := HF9.out.wk.own.descAt q hq9
    simp only at b1' b2' b3' b4'
    rw [hOA] at b1'
    cases b1'
    have hgq : (y.o.set q bu).getD q Dn.zero = bu := by rw [getD_get hq9, List.getElem_set_self]
    rw [hgq] at b4'
    have k4 := b4'.c4
    rw [HRB.out] at k4
    obtain ⟨x0, x1, x2, x3, x4⟩ := HF9.out.wk.box.cc
    simp only [List.length_set, tset_len, c1, hOA] at x0 x1
    by_cases hrp : 0 < rf - 1
    · have HOG2 : Hid (og = false) := by have := HOG.out; rw [decide_eq_false (by omega : ¬ (rf - 1 ≤ 0)), Bool.and_false] at this; exact this
      have HOD2 := HOD.out
      rw [if_neg (by omega), HOB.out] at HOD2
      replace HOD2 := Lib.hid HOD2
      clear b4' b5' hgq hq9
      obtain ⟨hA5, hD5, hB5⟩ := HF9.out.fin
      simp only [tset_len, List.length_set, c1, hOA] at hA5 hD5 hB5
      clear c1 hOA
      have e0 := hA5.cell 0 _ rfl
      have e1 := hA5.cell 1 _ rfl
      have hpo := HP.out _ _ (by rw [HOD2.out]; exact De.ext' rfl (by show (tset y.t k j _).map Tb.l = _; rw [tset_pl, HPT.out])) hD5 hB5
      rw [HOG2.out] at hpo
      simp only [tset_len, List.length_set] at hpo
      have HPo := Lib.hid hpo
      obtain ⟨r0, r1, r2, r3, r4⟩ := HF9.out.r.two
      clear hA5 hD5 hB5 hpo
      go_wp2_with fail
      generalize (wB.setCell ⟨w.heap.size + 1, 0, none⟩ (.slice (some ⟨g3, 0, none⟩) y.o.length y.oc)).setCell ⟨w.heap.size + 1, 1, none⟩ (.slice (some ⟨g4, 0, none⟩) y.t.length y.tc) = w9 at *
      exact bodyPost_ret (v := .tuple #[.agg #[.slice (some ⟨g3, 0, none⟩) y.o.length y.oc, .slice (some ⟨g4, 0, none⟩) y.t.length y.tc], .bool false, .int .i64 0]) (by simp [results, Tryz.results89, go_sem, e0, e1]) rfl HPo.out
    · have hrn : rf - 1 ≤ 0 := by omega
      have HOG2 : Hid (og = true) := by have := HOG.out; rw [decide_eq_true hrn] at this; exact this
      have HOD2 := HOD.out
      rw [if_pos hrn] at HOD2
      replace HOD2 := Lib.hid HOD2
      have hth := there5 b4' b5'
      have hwk9 := HF9.out.wk.putO hOA q hq9 Dn.zero
      simp only [List.set_set] at hwk9
      clear hrp
      go_wp2_with (with_reducible refine hold_store 126 rfl ?_)
      refine store_ato (q * 5) (Dn.cells Dn.zero) hth rfl size34 (by simp [Dn.cells, Dn.zero, Value.oneCell']) rfl rfl rfl rfl ?_
      intro wC hwC
      rw [← hwC] at hwk9
      have hbelC : Below (w.heap.size + 2) wB wC := by rw [hwC]; exact below_cells b6 _ _ (Below.refl _ _)
      have HFC := Lib.hid (HF9.out.turn hbelC hwk9)
      clear hwC hwk9 hbelC hth b4' b5' hgq hq9 HF9 x0 x1 x2 x3 x4 k4
      obtain ⟨O1, hO1⟩ : ∃ O1, O1 = y.o.set q Dn.zero := ⟨_, rfl⟩
      rw [← hO1] at HFC HOD2
      have HL1 : Hid (O1.length = y.o.length) := by rw [Hid, hO1, List.length_set]
      have hOc : (y.oc : Int) ≤ 9223372036854775807 := b3
      have hOl : (y.o.length : Int) ≤ (y.oc : Int) := b2
      clear hO1
      simp only [hOA] at HFC
      go_wp2_with fail
      go_frame
      go_loopw [] (fun wr => ∃ m : Nat, Hid (m ≤ O1.length ∧ 0 < O1.length ∧ trim O1 = trim (O1.take m)) ∧ Hid (Fr w x wr (w.heap.size + 2) (w.heap.size + 1) O ⟨some ⟨g3, 0, none⟩, y.oc, O1.take m, y.ta, y.tc, tset y.t k j 0⟩)) (fun wr => lenAt wr O)
      case atStart => exact ⟨O1.length, ⟨Nat.le_refl _, by rw [HL1.out]; omega, by rw [List.take_length]⟩, by rw [List.take_length]; exact HFC⟩
      case round =>
        clear HFC
        obtain ⟨m, HM, HFM⟩ := hrel
        obtain ⟨m1, m2, m3⟩ := HM.out
        have HTR := Lib.hid m3
        clear m3
        have hlm : (O1.take m).length = m := by rw [List.length_take]; omega
        have hmy : (m : Int) ≤ (y.o.length : Int) := by rw [HL1.out] at m1; omega
        obtain ⟨x0, x1, x2, x3, x4⟩ := HFM.out.wk.box.cc
        simp only [hlm, tset_len, c1] at x0 x1
        have HLM := Lib.hid hlm
        have hml := lenAt_of x0
        have HML := Lib.hid hml
        clear hlm hml
        by_cases hm0 : 0 < m
        · obtain ⟨m', rfl⟩ : ∃ m', m = m' + 1 := ⟨m - 1, by omega⟩
          obtain ⟨g7, d1, d2, d3, d4, d5, d6, d7⟩ := HFM.out.wk.own.descAt m' (by show m' < (O1.take (m' + 1)).length; rw [HLM.out]; omega)
          simp only at d1 d4
          cases d1
          have hgm : (O1.take (m' + 1)).getD m' Dn.zero = O1.getD m' Dn.zero := by
            rw [getD_get (by rw [HLM.out]; omega), getD_get (by omega), List.getElem_take]
          rw [hgm] at d4
          have k4 := d4.c4
          have HTD := Lib.hid (take_last O1 m' (by omega))
          clear hgm d2 d3 d4 d5
          generalize O1.getD m' Dn.zero = e at *
          have hm1 : (0 : Int) < ((m' + 1 : Nat) : Int) := by omega
          have hmc : ((m' + 1 : Nat) : Int) - 1 = (m' : Int) := by omega
          by_cases he : e.rf = 0
          · have hshr := own_shrink HFM.out.wk.own.o rfl m' (by show m' ≤ (O1.take (m' + 1)).length; rw [HLM.out]; omega) (by show 0 < (O1.take (m' + 1)).length; rw [HLM.out]; omega)
            simp only at hshr
            have htt : (O1.take (m' + 1)).take m' = O1.take m' := by rw [List.take_take]; congr 1; omega
            have hll : (O1.take m').length = m' := by rw [List.length_take]; omega
            rw [htt] at hshr
            have hdo : DOwn (w.heap.size + 2) wr ⟨some ⟨g3, 0, none⟩, y.oc, O1.take m', y.ta, y.tc, tset y.t k j 0⟩ := ⟨by show World.ownsRow _ _ _ _ (.slice (some ⟨g3, 0, none⟩) (O1.take m').length y.oc) (O1.take m').length _; rw [hll]; exact hshr, HFM.out.wk.own.t, HFM.out.wk.own.e, HFM.out.wk.own.d⟩
            have hwk2 := Wk.boxO (x := ⟨some ⟨g3, 0, none⟩, y.oc, O1.take (m' + 1), y.ta, y.tc, tset y.t k j 0⟩) hdo HFM.out.wk.box HFM.out.wk.lo hll
            have HFM2 := Lib.hid (HFM.out.turn ((Below.refl (w.heap.size + 2) wr).setCell (p := ⟨O, 0, none⟩) HFM.out.wk.lo (.slice (some ⟨g3, 0, none⟩) m' y.oc)) hwk2)
            have HM2 : Hid (m' ≤ O1.length ∧ 0 < O1.length ∧ trim O1 = trim (O1.take m')) := ⟨by omega, m2, by rw [HTR.out, HTD.out, trim_drop _ _ he]⟩
            have HML2 := Lib.hid (lenAt_of hwk2.box.cc.1)
            simp only [hll] at HML2
            clear hshr htt hll hdo hwk2 HM HFM HTR HTD
            generalize he2 : e.rf = erf at *
            subst he
            clear he2
            go_wp2_with fail
            go_roundw
            case rel => exact ⟨m', HM2, HFM2⟩
            case measure => rw [HML.out, HML2.out]; omega
          · have hfin : trim O1 = O1.take (m' + 1) := by rw [HTR.out, HTD.out, trim_keep _ _ he]
            have HFIN := Lib.hid hfin
            have he1 : (e.rf == 0) = false := by simpa using he
            clear hfin HTD
            generalize e.rf = erf at *
            clear he
            obtain ⟨hA5, hD5, hB5⟩ := HFM.out.fin
            simp only [tset_len, HLM.out, c1] at hA5 hD5 hB5
            clear c1 hOA
            have e0 := hA5.cell 0 _ rfl
            have e1 := hA5.cell 1 _ rfl
            have hpo := HP.out _ _ (by rw [HOD2.out]; exact De.ext' HFIN.out.symm (by show (tset y.t k j _).map Tb.l = _; rw [tset_pl, HPT.out])) hD5 hB5
            rw [HOG2.out] at hpo
            simp only [tset_len, HLM.out] at hpo
            have HPo := Lib.hid hpo
            obtain ⟨r0, r1, r2, r3, r4⟩ := HFM.out.r.two
            clear hA5 hD5 hB5 hpo
            go_wp2_with fail
            generalize (wr.setCell ⟨w.heap.size + 1, 0, none⟩ (.slice (some ⟨g3, 0, none⟩) (m' + 1) y.oc)).setCell ⟨w.heap.size + 1, 1, none⟩ (.slice (some ⟨g4, 0, none⟩) y.t.length y.tc) = w9 at *
            exact bodyPost_ret (v := .tuple #[.agg #[.slice (some ⟨g3, 0, none⟩) (m' + 1) y.oc, .slice (some ⟨g4, 0, none⟩) y.t.length y.tc], .bool true, .int .i64 0]) (by simp [results, Tryz.results89, go_sem, e0, e1]) rfl HPo.out
        · obtain rfl : m = 0 := by omega
          have hfin : trim O1 = O1.take 0 := by rw [HTR.out, List.take_zero]; rfl
          have HFIN := Lib.hid hfin
          clear hfin hm0
          obtain ⟨hA5, hD5, hB5⟩ := HFM.out.fin
          simp only [tset_len, HLM.out, c1] at hA5 hD5 hB5
          clear c1 hOA
          have e0 := hA5.cell 0 _ rfl
          have e1 := hA5.cell 1 _ rfl
          have hpo := HP.out _ _ (by rw [HOD2.out]; exact De.ext' HFIN.out.symm (by show (tset y.t k j _).map Tb.l = _; rw [tset_pl, HPT.out])) hD5 hB5
          rw [HOG2.out] at hpo
          simp only [tset_len, HLM.out] at hpo
          have HPo := Lib.hid hpo
          obtain ⟨r0, r1, r2, r3, r4⟩ := HFM.out.r.two
          clear hA5 hD5 hB5 hpo
          go_wp2_with fail
          generalize (wr.setCell ⟨w.heap.size + 1, 0, none⟩ (.slice (some ⟨g3, 0, none⟩) 0 y.oc)).setCell ⟨w.heap.size + 1, 1, none⟩ (.slice (some ⟨g4, 0, none⟩) y.t.length y.tc) = w9 at *
          exact bodyPost_ret (v := .tuple #[.agg #[.slice (some ⟨g3, 0, none⟩) 0 y.oc, .slice (some ⟨g4, 0, none⟩) y.t.length y.tc], .bool true, .int .i64 0]) (by simp [results, Tryz.results89, go_sem, e0, e1]) rfl HPo.out
  · have HOG2 : Hid (og = false) := by have := HOG.out; rw [decide_eq_false hne, Bool.false_and] at this; exact this
    have HOD2 : Hid (od = x.pl) := by have := HOD.out; rw [if_neg hne] at this; exact this
    obtain ⟨hA5, hD5, hB5⟩ := HFR.out.fin
    have e0 := hA5.cell 0 _ rfl
    have e1 := hA5.cell 1 _ rfl
    have hpo := HP.out y _ (by rw [HOD2.out]; exact HPL.out) hD5 hB5
    rw [HOG2.out] at hpo
    have HPo := Lib.hid hpo
    obtain ⟨r0, r1, r2, r3, r4⟩ := HFR.out.r.two
    obtain ⟨x0, x1, x2, x3, x4⟩ := HFR.out.wk.box.cc
    clear hA5 hD5 hB5 hpo
    go_wp2_with fail
    generalize ((w3.setCell ⟨w.heap.size + 1, 0, none⟩ (.slice y.oa y.o.length y.oc)).setCell ⟨w.heap.size + 1, 1, none⟩ (.slice y.ta y.t.length y.tc)) = w9 at *
    exact bodyPost_ret (v := .tuple #[.agg #[.slice y.oa y.o.length y.oc, .slice y.ta y.t.length y.tc], .bool false, .int .i64 ne]) (by simp [results, Tryz.results89, go_sem, e0, e1]) rfl HPo.out
end Go.Proofs.YtimhaidiclbnhaaGreat.Des
