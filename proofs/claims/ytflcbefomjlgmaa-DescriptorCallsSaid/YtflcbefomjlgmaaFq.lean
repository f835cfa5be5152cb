/- Fork: the document's. -/
import Derived.Test.YtflcbefomjlgmaaFk
import Derived.Test.YtflcbefomjlgmaaCr
set_option linter.unusedSimpArgs false
set_option linter.unusedVariables false
namespace Go.Proofs.Ytflcbefomjlgmaa
open Go.ChangeShapes Go.WideShapes Go.ChangeAt Go.RowKit

def rowI (l : List Int) (i : Nat) : List Int := l.take i ++ List.replicate (16 - i) 0
theorem rowI_len {l : List Int} (h : l.length = 16) (i : Nat) (hi : i ≤ 16) : (rowI l i).length = 16 := by
  unfold rowI
  rw [List.length_append, List.length_take, List.length_replicate]; omega
theorem rowI_zero (l : List Int) : rowI l 0 = List.replicate 16 0 := by simp [rowI]
theorem rowI_full {l : List Int} (h : l.length = 16) : rowI l 16 = l := by
  unfold rowI
  rw [List.take_of_length_le (by omega), Nat.sub_self]; simp
theorem rowI_set {l : List Int} (h : l.length = 16) (i : Nat) (hi : i < 16) : (rowI l i).set i (l.getD i 0) = rowI l (i + 1) := by
  unfold rowI
  rw [take_pref (by omega), show 16 - i = (16 - (i + 1)) + 1 by omega, List.replicate_succ, List.set_append_right _ _ (by rw [List.length_take]; omega), show i - (l.take i).length = 0 by rw [List.length_take]; omega, List.append_assoc]
  rfl
theorem rowI_same {l : List Int} (h : l.length = 16) (i : Nat) (hi : i < 16) (hz : l.getD i 0 = 0) : rowI l i = rowI l (i + 1) := by
  unfold rowI
  rw [take_pref (by omega), show 16 - i = (16 - (i + 1)) + 1 by omega, List.replicate_succ, hz, List.append_assoc]
  rfl
theorem zeros_of {l : List Int} (h : l.length = 16) (hz : ∀ j, j < 16 → l.getD j 0 = 0) : l = List.replicate 16 0 := by
  refine List.ext_getElem (by simp [h]) fun i h1 h2 => ?_
  have := hz i (by omega)
  rw [getD_get h1] at this
  rw [this, List.getElem_replicate]
theorem tset_set (t : List Tb) (b j : Nat) (hb : b < t.length) (a : Option Addr) (c : Nat) (l : List Int) (z : Int) : tset (t.set b ⟨a, c, l⟩) b j z = t.set b ⟨a, c, l.set j z⟩ := by
  unfold tset
  rw [getD_set_self hb, List.set_set]
theorem set_same (t : List Tb) (b : Nat) (hb : b < t.length) : t.set b (t.getD b Tb.nil) = t := by
  rw [getD_get hb]; simp

set_option maxHeartbeats 8000000 in
theorem forkR_any (x : Dv) (p q : Int) (w : World) (h : DIn w x) (hz : DSz x) :
    Calls Try.prog 16 #[dVal x, .int .i64 p, .int .i64 q] w (OutP w x (forkD x.pl p q) (fun v => .tuple #[v, .int .i64 (forkE x.pl p q)])) := by
  have HX := Lib.hid h
  have HC : Hid (∀ W, Below w.heap.size w W → Calls Try.prog 39 #[.agg #[.slice x.oa x.o.length x.oc, .slice x.ta x.t.length x.tc]] W fun e w' => ∃ y : Dv, e = .returned (.agg #[.slice y.oa y.o.length y.oc, .slice y.ta y.t.length y.tc]) ∧ y.pl = x.pl ∧ DOwn W.heap.size w' y ∧ Below W.heap.size W w') := fun W hb => copied_any x W (h.below hb) hz
  have HCK : Hid (∀ W, Below w.heap.size w W → Calls Try.prog 24 #[.agg #[.slice x.oa x.o.length x.oc, .slice x.ta x.t.length x.tc]] W (RetW (.bool (checkV x.pl)) W)) := fun W hb => checkR_any' x W (h.below hb) hz.o hz.t
  have HPV : Hid (∀ z, procV x.pl z = if checkV x.pl = false then 1 else if z < 0 ∨ (x.t.length : Int) ≤ z then 2 else 0) := fun z => by unfold procV; rw [pl_t]
  have HRX : Hid (RowsAt w x.ta x.tc x.t) := h.rows
  have HP : Hid (∀ (y : Dv) w', y.pl = forkD x.pl p q → DAns w x w' y → Below w.heap.size w w' → OutP w x (forkD x.pl p q) (fun v => .tuple #[v, .int .i64 (forkE x.pl p q)]) (.returned (.tuple #[.agg #[.slice y.oa y.o.length y.oc, .slice y.ta y.t.length y.tc], .int .i64 (forkE x.pl p q)])) w') := fun y w' h1 h2 h3 => ⟨y, rfl, h1, h2, h3⟩
  have HOE : Hid (forkE x.pl p q = if procV x.pl p ≠ 0 then procV x.pl p else if procV x.pl q ≠ 0 then procV x.pl q else if p = q then 2 else if anyB (tabAt x.pl q) = true then 5 else 0) := rfl
  have HOD : Hid (forkD x.pl p q = if forkE x.pl p q = 0 then ⟨bumps x.o (tabAt x.pl p), x.pl.t.set q.toNat (tabAt x.pl p)⟩ else x.pl) := rfl
  have HTB : Hid (∀ z, procV x.pl z = 0 → 0 ≤ z ∧ z < (x.t.length : Int) ∧ tabAt x.pl z = (x.t.getD z.toNat Tb.nil).l ∧ (tabAt x.pl z).length = 16 ∧ x.o.length ≤ 128 ∧ (∀ j, j < 16 → 0 ≤ (tabAt x.pl z).getD j 0 ∧ (tabAt x.pl z).getD j 0 ≤ x.o.length) ∧ ∀ i, i < x.o.length → 0 ≤ (x.o.getD i Dn.zero).rf ∧ (x.o.getD i Dn.zero).rf ≤ 128) := fun z hp => by
    obtain ⟨h1, h2, h3⟩ := procV_ok hp
    rw [pl_t] at h3
    have h4 := check_tab h1 z.toNat (by rw [pl_t]; omega)
    exact ⟨h2, h3, map_getD x.t z.toNat (by omega), h4.1, (check_len h1).2.2, h4.2, fun i hi => rf_bd h1 i hi⟩
  obtain ⟨W0, hW0⟩ : ∃ W0, W0 = (w.alloc (Obj.cells #[.slice x.oa x.o.length x.oc, .slice x.ta x.t.length x.tc] 29)).alloc (Obj.cells #[.slice none 0 0, .slice none 0 0] 29) := ⟨_, rfl⟩
  have hb0 : Below w.heap.size w W0 := by rw [hW0]; exact ((Below.refl _ w).alloc (Nat.le_refl _) _).alloc (by simp) _
  have hs0 : W0.heap.size = w.heap.size + 2 := by rw [hW0]; simp
  have hr0 : At W0 (w.heap.size + 1) [.slice none 0 0, .slice none 0 0] := by rw [hW0]; exact (At.new (w.alloc (Obj.cells #[.slice x.oa x.o.length x.oc, .slice x.ta x.t.length x.tc] 29)) [.slice none 0 0, .slice none 0 0] 29).cast (by simp)
  have hp0 : W0.cell? ⟨w.heap.size, 0, none⟩ = some (.slice x.oa x.o.length x.oc) := by rw [hW0]; simp
  have hp1 : W0.cell? ⟨w.heap.size, 1, none⟩ = some (.slice x.ta x.t.length x.tc) := by rw [hW0]; simp
  have HB0 := Lib.hid hb0
  have HS0 := Lib.hid hs0
  have HR0 := Lib.hid hr0
  have HP0 := Lib.hid hp0
  have HP1 := Lib.hid hp1
  clear hb0 hs0 hr0 h
  generalize OutP w x (forkD x.pl p q) (fun v => .tuple #[v, .int .i64 (forkE x.pl p q)]) = Post at *
  generalize forkD x.pl p q = od at *
  generalize forkE x.pl p q = oe at *
  unfold dVal
  generalize hcv : checkV x.pl = cv at *
  clear hcv
  go_enter Try.func16, Try.ntmps16
  go_wp2_with fail
  rw [← hW0]
  refine (HCK.out W0 HB0.out).mono ?_
  rintro e w2 ⟨rfl, hb⟩
  have HR2 := Lib.hid (HR0.out.below hb HR0.out.hi)
  have HB2 := Lib.hid (HB0.out.trans (hb.mono HB0.out.size))
  have h0 := (hb.cell (p := ⟨w.heap.size, 0, none⟩) (World.block_lt_of_cell? _ _ hp0)).trans hp0
  have h1 := (hb.cell (p := ⟨w.heap.size, 1, none⟩) (World.block_lt_of_cell? _ _ hp1)).trans hp1
  have hl2 : w.heap.size + 2 ≤ w2.heap.size := by rw [← HS0.out]; exact hb.size
  clear hb HCK hp0 hp1 HB0 HR0 HP0 HP1 hW0 HS0
  cases cv with
  | false =>
    have HNEG : Hid ((0 : Int) ≤ 0) := Int.le_refl _
    have HOE2 : Hid (oe = 1) := by have := HOE.out; rw [HPV.out, if_pos rfl, if_pos (by decide)] at this; exact this
    have HOD2 : Hid (od = x.pl) := by have := HOD.out; rw [if_neg (by rw [HOE2.out]; decide)] at this; exact this
    obtain ⟨r0, r1, r2, r3, r4⟩ := HR2.out.two
    obtain ⟨hA5, hD5, hB5⟩ := ret_in HX.out HR2.out HB2.out (Nat.lt_succ_self _)
    have e0 := hA5.cell 0 _ rfl
    have e1 := hA5.cell 1 _ rfl
    have hpo := HP.out x _ (by rw [HOD2.out]) hD5 hB5
    rw [HOE2.out] at hpo
    have HPo := Lib.hid hpo
    clear hA5 hD5 hB5 hpo
    go_wp2_with fail
    all_goals first | (exfalso; have := HNEG.out; (try simp only [beq_eq_false_iff_ne, ne_eq] at *); omega) | (generalize ((w2.setCell ⟨w.heap.size + 1, 0, none⟩ (.slice x.oa x.o.length x.oc)).setCell ⟨w.heap.size + 1, 1, none⟩ (.slice x.ta x.t.length x.tc)) = w9 at *; exact bodyPost_ret (v := .tuple #[.agg #[.slice x.oa x.o.length x.oc, .slice x.ta x.t.length x.tc], .int .i64 1]) (by simp [results, Try.results16, go_sem, e0, e1]) rfl HPo.out)
  | true =>
    by_cases hn : p < 0 ∨ (x.t.length : Int) ≤ p ∨ q < 0 ∨ (x.t.length : Int) ≤ q ∨ p = q
    · have HNEG := Lib.hid hn
      have hoe : oe = 2 := by
        have h1 := HPV.out p
        have h2 := HPV.out q
        rw [if_neg (by simp)] at h1 h2
        rw [HOE.out, h1, h2]
        by_cases hp1 : p < 0 ∨ (x.t.length : Int) ≤ p
        · rw [if_pos hp1]; rfl
        · by_cases hq1 : q < 0 ∨ (x.t.length : Int) ≤ q
          · rw [if_neg hp1, if_pos hq1]; rfl
          · rw [if_neg hp1, if_neg hq1, if_pos (by omega : p = q)]; rfl
      have HOE2 := Lib.hid hoe
      have HOD2 : Hid (od = x.pl) := by have := HOD.out; rw [if_neg (by rw [HOE2.out]; decide)] at this; exact this
      clear hn hoe
      obtain ⟨r0, r1, r2, r3, r4⟩ := HR2.out.two
      obtain ⟨hA5, hD5, hB5⟩ := ret_in HX.out HR2.out HB2.out (Nat.lt_succ_self _)
      have e0 := hA5.cell 0 _ rfl
      have e1 := hA5.cell 1 _ rfl
      have hpo := HP.out x _ (by rw [HOD2.out]) hD5 hB5
      rw [HOE2.out] at hpo
      have HPo := Lib.hid hpo
      clear hA5 hD5 hB5 hpo
      go_wp2_with fail
      all_goals first | (exfalso; have := HNEG.out; (try simp only [beq_eq_false_iff_ne, ne_eq] at *); omega) | (generalize ((w2.setCell ⟨w.heap.size + 1, 0, none⟩ (.slice x.oa x.o.length x.oc)).setCell ⟨w.heap.size + 1, 1, none⟩ (.slice x.ta x.t.length x.tc)) = w9 at *; exact bodyPost_ret (v := .tuple #[.agg #[.slice x.oa x.o.length x.oc, .slice x.ta x.t.length x.tc], .int .i64 2]) (by simp [results, Try.results16, go_sem, e0, e1]) rfl HPo.out)
    · have hpp : procV x.pl p = 0 := by rw [HPV.out, if_neg (by simp), if_neg (by omega)]
      have hpq : procV x.pl q = 0 := by rw [HPV.out, if_neg (by simp), if_neg (by omega)]
      rw [hpp, hpq, if_neg (by simp), if_neg (by simp), if_neg (by omega)] at HOE
      have hTp := HTB.out p hpp
      have hTq := HTB.out q hpq
      clear HTB HPV hpp hpq
      generalize tabAt x.pl p = Tp at *
      generalize tabAt x.pl q = Tq at *
      obtain ⟨q0, q1, q2, q3, q4, q5, q6⟩ := hTp
      obtain ⟨s0, s1, s2, s3, _, _, _⟩ := hTq
      obtain ⟨a, rfl⟩ : ∃ a : Nat, p = (a : Int) := ⟨p.toNat, by omega⟩
      obtain ⟨b, rfl⟩ : ∃ b : Nat, q = (b : Int) := ⟨q.toNat, by omega⟩
      rw [Int.toNat_natCast] at q2 s2 HOD
      have hax : a < x.t.length := by omega
      have hbx : b < x.t.length := by omega
      have hab1 : ((a : Int) == (b : Int)) = false := by simp; omega
      have TPL := Lib.hid q3
      have TQL := Lib.hid s3
      have TPB := Lib.hid q5
      have QP := Lib.hid q2
      have QQ := Lib.hid s2
      have Q6 := Lib.hid q6
      have HXA : Hid (∀ W, Below w.heap.size w W → ∃ g of g' o' c', x.ta = some ⟨g, of, none⟩ ∧ (x.t.length : Int) ≤ x.tc ∧ (x.tc : Int) ≤ 9223372036854775807 ∧ W.cell? ⟨g, of + a, none⟩ = some (.slice (some ⟨g', o', none⟩) 16 c') ∧ (16 : Int) ≤ c' ∧ (c' : Int) ≤ 9223372036854775807 ∧ ∀ j, j < 16 → W.cell? ⟨g', o' + j, none⟩ = some (.int .i64 (Tp.getD j 0))) := fun W hb => by
        obtain ⟨g, of, e1, e2, e3, e4, e5⟩ := HRX.out W hb a hax
        rw [← QP.out] at e4 e5
        obtain ⟨g', o', f1, f2, f3, _⟩ := e5 0 (by rw [TPL.out]; omega)
        rw [f1, TPL.out] at e4
        rw [TPL.out] at f2
        refine ⟨g, of, g', o', _, e1, e2, e3, e4, f2, f3, fun j hj => ?_⟩
        obtain ⟨g2, o2, k1, _, _, k4⟩ := e5 j (by rw [TPL.out]; exact hj)
        rw [f1] at k1
        cases k1
        exact k4
      have HXB : Hid (∀ W, Below w.heap.size w W → ∃ g of g' o' c', x.ta = some ⟨g, of, none⟩ ∧ (x.t.length : Int) ≤ x.tc ∧ (x.tc : Int) ≤ 9223372036854775807 ∧ W.cell? ⟨g, of + b, none⟩ = some (.slice (some ⟨g', o', none⟩) 16 c') ∧ (16 : Int) ≤ c' ∧ (c' : Int) ≤ 9223372036854775807 ∧ ∀ j, j < 16 → W.cell? ⟨g', o' + j, none⟩ = some (.int .i64 (Tq.getD j 0))) := fun W hb => by
        obtain ⟨g, of, e1, e2, e3, e4, e5⟩ := HRX.out W hb b hbx
        rw [← QQ.out] at e4 e5
        obtain ⟨g', o', f1, f2, f3, _⟩ := e5 0 (by rw [TQL.out]; omega)
        rw [f1, TQL.out] at e4
        rw [TQL.out] at f2
        refine ⟨g, of, g', o', _, e1, e2, e3, e4, f2, f3, fun j hj => ?_⟩
        obtain ⟨g2, o2, k1, _, _, k4⟩ := e5 j (by rw [TQL.out]; exact hj)
        rw [f1] at k1
        cases k1
        exact k4
      clear q2 q3 q5 q6 s2 s3 HRX hn
      go_wp2_with fail
      go_loopw [8] (fun v8 wr => ∃ i : Nat, i ≤ 16 ∧ v8 = .int .i64 i ∧ Hid (∀ j, j < i → Tq.getD j 0 = 0) ∧ wr = w2) (fun v8 _ => 100 - (intOf v8).toNat)
      case atStart => exact ⟨0, by omega, rfl, (fun j hj => by omega), rfl⟩
      case round =>
        obtain ⟨i, hi, rfl, HZ, rfl⟩ := hrel
        by_cases hlt : i < 16
        · have hliI : (i : Int) < 16 := by omega
          obtain ⟨g, of, g', o', c', e1, e2, e3, e4, e5, e6, e7⟩ := HXB.out wr HB2.out
          have e7i := e7 i hlt
          have h1' := h1
          rw [e1] at h1'
          have HAT : Hid (Tq.getD i 0 ≠ 0 → anyB Tq = true) := fun hh => anyB_true (by rw [TQL.out]; exact hlt) hh
          have HZN : Hid (Tq.getD i 0 = 0 → ∀ j, j < i + 1 → Tq.getD j 0 = 0) := fun hh j hj => by
            by_cases e : j = i
            · rw [e]; exact hh
            · exact HZ.out j (by omega)
          clear e7 h1
          generalize Tq.getD i 0 = z at *
          by_cases hz0 : z = 0
          · subst hz0
            have HV := Lib.hid (HZN.out rfl)
            clear e1
            go_wp2_with fail
            go_roundw
            case rel => exact ⟨i + 1, by omega, by go_num, HV, trivial⟩
            case measure => first | (simp [intOf]; done) | (simp [intOf]; omega)
          · have hz1 : (z != 0) = true := by simpa using hz0
            have HNEG : Hid ((0 : Int) ≤ 0) := Int.le_refl _
            have hoe := HOE.out
            rw [if_pos (HAT.out hz0)] at hoe
            have HOE2 := Lib.hid hoe
            have HOD2 : Hid (od = x.pl) := by have := HOD.out; rw [if_neg (by rw [HOE2.out]; decide)] at this; exact this
            clear hoe HAT HZN hz0
            have HE1 := Lib.hid e1
            clear e1
            obtain ⟨r0, r1, r2, r3, r4⟩ := HR2.out.two
            obtain ⟨hA5, hD5, hB5⟩ := ret_in HX.out HR2.out HB2.out (Nat.lt_succ_self _)
            have e0 := hA5.cell 0 _ rfl
            have e1 := hA5.cell 1 _ rfl
            have hpo := HP.out x _ (by rw [HOD2.out]) hD5 hB5
            rw [HOE2.out] at hpo
            rw [HE1.out] at hpo e0 e1
            have HPo := Lib.hid hpo
            clear hA5 hD5 hB5 hpo
            go_wp2_with fail
            all_goals first | (exfalso; have := HNEG.out; (try simp only [beq_eq_false_iff_ne, ne_eq] at *); omega) | (generalize ((wr.setCell ⟨w.heap.size + 1, 0, none⟩ (.slice x.oa x.o.length x.oc)).setCell ⟨w.heap.size + 1, 1, none⟩ (.slice (some ⟨g, of, none⟩) x.t.length x.tc)) = w9 at *; exact bodyPost_ret (v := .tuple #[.agg #[.slice x.oa x.o.length x.oc, (.slice (some ⟨g, of, none⟩) x.t.length x.tc)], .int .i64 5]) (by simp [results, Try.results16, go_sem, e0, e1]) rfl HPo.out)
        · obtain rfl : i = 16 := by omega
          have hany := anyB_none (l := Tq) (by rw [TQL.out]; exact HZ.out)
          have HTZ := Lib.hid (zeros_of TQL.out HZ.out)
          have HOE2 : Hid (oe = 0) := by have := HOE.out; rw [hany, if_neg (by simp)] at this; exact this
          have HOD2 := HOD.out
          rw [if_pos HOE2.out] at HOD2
          clear HOE HOD hany HZ HXB
          go_wp2_with fail
          refine (HC.out wr HB2.out).mono ?_
          rintro e w4 ⟨y, rfl, hpl, hown, hb⟩
          have HFR : Hid (Fr w x (w4.alloc (Obj.cells #[.slice y.oa y.o.length y.oc, .slice y.ta y.t.length y.tc] 29)) (w.heap.size + 2) (w.heap.size + 1) w4.heap.size y) := Fr.start h0 h1 HR2.out HB2.out (Nat.lt_succ_self _) (Nat.lt_succ_self _) hl2 hown hb
          have HPL := Lib.hid hpl
          obtain ⟨w6, hw6⟩ : ∃ w6, w6 = w4.alloc (Obj.cells #[.slice y.oa y.o.length y.oc, .slice y.ta y.t.length y.tc] 29) := ⟨_, rfl⟩
          obtain ⟨O, hO⟩ : ∃ O, O = w4.heap.size := ⟨_, rfl⟩
          rw [← hw6, ← hO] at HFR
          have hyt : y.t.length = x.t.length := by have := congrArg (fun d => d.t.length) HPL.out; simpa [Dv.pl] using this
          have hyo : y.o = x.o := congrArg De.o HPL.out
          have HPT : Hid (y.t.map Tb.l = x.pl.t) := congrArg De.t HPL.out
          have hkt : b < y.t.length := by omega
          have hyTq : (y.t.getD b Tb.nil).l = List.replicate 16 0 := by rw [← map_getD y.t b hkt, HPT.out, ← HTZ.out, QQ.out]; exact map_getD x.t b hbx
          rw [← hyo] at HOD2
          replace HOD2 := Lib.hid HOD2
          have HYO := Lib.hid hyo
          have HRFB : Hid (∀ i, i < y.o.length → 0 ≤ (y.o.getD i Dn.zero).rf ∧ (y.o.getD i Dn.zero).rf ≤ 128) := by rw [Hid, hyo]; exact Q6.out
          have hyol : y.o.length ≤ 128 := by rw [hyo]; exact q4
          have hbtI : (b : Int) < (y.t.length : Int) := by omega
          clear hpl hown hb HC h0 h1 hyo hyt
          go_upto_region 11 with (fail)
          rw [← hw6, ← hO]
          clear hw6 hO HR2 HB2
          obtain ⟨g4, g5, c1, c2, c3, c4, c5, c6, c7, c8, c9, c10, c11, c12⟩ := HFR.out.wk.own.tabAt b hkt (by rw [hyTq]; simp)
          obtain ⟨ci, hci⟩ : ∃ ci, (y.t.getD b Tb.nil).c = ci := ⟨_, rfl⟩
          have hyb : y.t.getD b Tb.nil = ⟨some ⟨g5, 0, none⟩, ci, rowI Tp 0⟩ := by
            rw [rowI_zero, ← hyTq, ← hci, ← c4]
          have HF0 : Hid (Fr w x w6 (w.heap.size + 2) (w.heap.size + 1) O ⟨y.oa, y.oc, bumps y.o (Tp.take 0), y.ta, y.tc, y.t.set b ⟨some ⟨g5, 0, none⟩, ci, rowI Tp 0⟩⟩) := by
            rw [← hyb, set_same _ _ hkt]
            exact HFR
          have hc6 : (16 : Int) ≤ (ci : Int) := by
            have := c6
            rw [hyTq, hci] at this
            simpa using this
          rw [hci] at c7
          clear hyb hci c4 c5 c6 c8 c9 HFR hyTq
          go_wp2_with fail
          go_loopw [10] (fun v10 wr => ∃ i : Nat, i ≤ 16 ∧ v10 = .int .i64 i ∧ Hid (Fr w x wr (w.heap.size + 2) (w.heap.size + 1) O ⟨y.oa, y.oc, bumps y.o (Tp.take i), y.ta, y.tc, y.t.set b ⟨some ⟨g5, 0, none⟩, ci, rowI Tp i⟩⟩)) (fun v10 _ => 100 - (intOf v10).toNat)
          case atStart => exact ⟨0, by omega, rfl, HF0⟩
          case round =>
            clear HF0
            obtain ⟨i, hi, rfl, HFI⟩ := hrel
            obtain ⟨x0, x1, x2, x3, x4⟩ := HFI.out.wk.box.cc
            simp only [List.length_set, c1] at x1
            rw [bumps_len] at x0
            have hbt : b < (y.t.set b ⟨some ⟨g5, 0, none⟩, ci, rowI Tp i⟩).length := by rw [List.length_set]; exact hkt
            have hgs : (y.t.set b ⟨some ⟨g5, 0, none⟩, ci, rowI Tp i⟩).getD b Tb.nil = ⟨some ⟨g5, 0, none⟩, ci, rowI Tp i⟩ := getD_set_self hkt
            by_cases hlt : i < 16
            · have hRL := Lib.hid (rowI_len TPL.out i hi)
              obtain ⟨h4, h5, d1, d2, d3, d4, d5, d6, d7, d8, d9, d10, d11, d12⟩ := HFI.out.wk.own.tabAt b hbt (by rw [hgs]; show 0 < (rowI Tp i).length; rw [hRL.out]; omega)
              simp only [hgs] at d4 d5 d6 d7 d8
              cases d4
              have d1' := c1.symm.trans d1
              cases d1'
              rw [hRL.out] at d5 d8
              have d8i := d8 i hlt
              have d9i := d9 i
              obtain ⟨g, of, g', o', c', e1, e2, e3, e4, e5, e6, e7⟩ := HXA.out wr HFI.out.bel
              have e7i := e7 i hlt
              have pp1 := HFI.out.p1
              rw [e1] at pp1
              have hzb := TPB.out i hlt
              have HTK := Lib.hid (take_pref (l := Tp) (j := i) (by rw [TPL.out]; exact hlt))
              have HSN := Lib.hid (bumps_snoc y.o (Tp.take i) (Tp.getD i 0))
              have HRS := Lib.hid (rowI_set TPL.out i hlt)
              have HRE := Lib.hid (rowI_same TPL.out i hlt)
              have hliI : (i : Int) < 16 := by omega
              have hax2 : (a : Int) < (x.t.length : Int) := by omega
              have nOT : O ≠ g5 := HFI.out.wk.neT b hbt (by rw [hgs])
              generalize (rowI Tp i).getD i 0 = zo at d8i
              clear d1 d2 d3 d8 d9 d12 hbt e7 e1
              generalize Tp.getD i 0 = z at *
              obtain ⟨z0, z1⟩ := hzb
              by_cases hz0 : z = 0
              · subst hz0
                have HFN : Hid (Fr w x wr (w.heap.size + 2) (w.heap.size + 1) O ⟨y.oa, y.oc, bumps y.o (Tp.take (i + 1)), y.ta, y.tc, y.t.set b ⟨some ⟨g5, 0, none⟩, ci, rowI Tp (i + 1)⟩⟩) := by
                  rw [HTK.out, HSN.out, if_neg (by decide), ← HRE.out rfl]; exact HFI
                clear hgs
                go_wp2_with fail
                go_roundw
                case rel => exact ⟨i + 1, by omega, by go_num, HFN⟩
                case measure => simp [intOf]; omega
              · obtain ⟨m, hm⟩ : ∃ m : Nat, z = (m : Int) + 1 := ⟨(z - 1).toNat, by omega⟩
                subst hm
                have hmo : m < y.o.length := by rw [HYO.out]; omega
                have hmb : m < (bumps y.o (Tp.take i)).length := by rw [bumps_len]; exact hmo
                obtain ⟨g3, b1, b2, b3, b4, b5, b6, b7⟩ := HFI.out.wk.own.descAt m hmb
                have k4 := b4.c4
                have hrb := bumps_rf y.o (Tp.take i) m hmo
                have hrx := HRFB.out m hmo
                have htl : (Tp.take i).length ≤ 16 := by rw [List.length_take]; omega
                have hbt : b < (y.t.set b ⟨some ⟨g5, 0, none⟩, ci, rowI Tp i⟩).length := by rw [List.length_set]; exact hkt
                have hf1 := HFI.out.turn ((Below.refl (w.heap.size + 2) wr).setCell (p := ⟨g5, i, none⟩) c10 (.int .i64 ((m : Int) + 1))) (HFI.out.wk.putT b hbt (by rw [hgs]) i ((m : Int) + 1))
                rw [tset_set _ _ _ hkt, HRS.out] at hf1
                have HFN : Hid (Fr w x ((wr.setCell ⟨g5, i, none⟩ (.int .i64 ((m : Int) + 1))).setCell ⟨g3, m * 5 + 4, none⟩ (.int .i64 (((bumps y.o (Tp.take i)).getD m Dn.zero).rf + 1))) (w.heap.size + 2) (w.heap.size + 1) O ⟨y.oa, y.oc, bumps y.o (Tp.take (i + 1)), y.ta, y.tc, y.t.set b ⟨some ⟨g5, 0, none⟩, ci, rowI Tp (i + 1)⟩⟩) := by
                  rw [HTK.out, HSN.out, if_pos (by omega), show ((m : Int) + 1 - 1).toNat = m by omega]
                  exact hf1.turn ((Below.refl (w.heap.size + 2) _).setCell (p := ⟨g3, m * 5 + 4, none⟩) b6 _) (hf1.wk.putC b1 m hmb 4 (by omega) _ (bump ((bumps y.o (Tp.take i)).getD m Dn.zero) (((bumps y.o (Tp.take i)).getD m Dn.zero).rf + 1)) rfl)
                have hOA : y.oa = some ⟨g3, 0, none⟩ := b1
                have nO := HFI.out.wk.neO b1
                have nTO : g3 ≠ g5 := by
                  have t1 := HFI.out.wk.own.o
                  have hmem := List.getElem_mem hbt
                  rw [← getD_get (d := Tb.nil) hbt, hgs] at hmem
                  have t2 := HFI.out.wk.own.e _ hmem
                  simp only [hOA] at t1
                  exact own_ne t1 t2 (by decide)
                simp only [hOA] at x0
                have b5q := b5 (m * 5 + 4)
                have hmI : (m : Int) < (y.o.length : Int) := by omega
                have hw1 : IntKind.i64.wrap ((m : Int) + 1 - 1) = (m : Int) := by
                  rw [show (m : Int) + 1 - 1 = m from by omega]
                  exact IntWalk.i64_in _ (by omega)
                rw [bumps_len] at b2
                simp only at b2 b3
                have hr0 : 0 ≤ ((bumps y.o (Tp.take i)).getD m Dn.zero).rf := by omega
                have hr1 : ((bumps y.o (Tp.take i)).getD m Dn.zero).rf ≤ 200 := by omega
                clear b4 b5 hrb hrx htl hmb HFI b1 hz0 hgs hf1 hbt hOA
                generalize ((bumps y.o (Tp.take i)).getD m Dn.zero).rf = rf at *
                go_wp2_with fail
                go_roundw
                case rel => exact ⟨i + 1, by omega, by go_num, HFN⟩
                case measure => simp [intOf]; omega
            · obtain rfl : i = 16 := by omega
              have htt : Tp.take 16 = Tp := List.take_of_length_le (by rw [TPL.out]; exact Nat.le_refl _)
              rw [htt, rowI_full TPL.out] at HFI
              clear htt hgs hbt
              obtain ⟨hA5, hD5, hB5⟩ := HFI.out.fin
              simp only [List.length_set, bumps_len, c1] at hA5 hD5 hB5
              have e0 := hA5.cell 0 _ rfl
              have e1 := hA5.cell 1 _ rfl
              have hpo := HP.out _ _ (by rw [HOD2.out]; exact De.ext' rfl (by show (y.t.set b _).map Tb.l = _; rw [set_pl, HPT.out])) hD5 hB5
              rw [HOE2.out] at hpo
              simp only [List.length_set, bumps_len] at hpo
              have HPo := Lib.hid hpo
              obtain ⟨r0, r1, r2, r3, r4⟩ := HFI.out.r.two
              clear hA5 hD5 hB5 hpo HFI c1
              go_wp2_with fail
              generalize ((wr.setCell ⟨w.heap.size + 1, 0, none⟩ (.slice y.oa y.o.length y.oc)).setCell ⟨w.heap.size + 1, 1, none⟩ (.slice (some ⟨g4, 0, none⟩) y.t.length y.tc)) = w9 at *
              exact bodyPost_ret (v := .tuple #[.agg #[.slice y.oa y.o.length y.oc, .slice (some ⟨g4, 0, none⟩) y.t.length y.tc], .int .i64 0]) (by simp [results, Try.results16, go_sem, e0, e1]) rfl HPo.out
end Go.Proofs.Ytflcbefomjlgmaa
