/- Open: the document's. -/
import Derived.Test.YtflcbefomjlgmaaPv
import Derived.Test.YtflcbefomjlgmaaCr
set_option linter.unusedSimpArgs false
set_option linter.unusedVariables false
namespace Go.Proofs.Ytflcbefomjlgmaa
open Go.ChangeShapes Go.WideShapes Go.ChangeAt Go.RowKit

theorem rf_none {d : De} (h : checkV d = true) (i : Nat) (hi : i < d.o.length) : (d.o.getD i Dn.zero).rf = 0 ↔ noneB (d.o.getD i Dn.zero) = true := by
  unfold checkV at h
  rw [Bool.and_eq_true, Bool.and_eq_true] at h
  have h1 := List.all_eq_true.1 h.2 i (List.mem_range.2 hi)
  unfold itemB at h1
  rw [Bool.and_eq_true] at h1
  have h2 := of_decide_eq_true h1.1
  unfold noneB
  constructor
  · intro h0
    rw [← h2, if_pos h0, Bool.and_eq_true] at h1
    exact h1.2.1
  · intro h0
    rw [of_decide_eq_true h0]; rfl
theorem slot_at {o : List Dn} {a : Nat} (h1 : ∀ j, j < a → noneB (o.getD j Dn.zero) = false) (h2 : a = o.length ∨ (a < o.length ∧ noneB (o.getD a Dn.zero) = true)) : slotN o = a ∧ (a = o.length → fst noneB o = -1) ∧ (a < o.length → fst noneB o = a) := by
  rcases h2 with h2 | ⟨h2, h3⟩
  · have e : fst noneB o = -1 := fst_miss (d := Dn.zero) (by rw [← h2]; exact h1)
    refine ⟨?_, fun _ => e, fun h => by omega⟩
    unfold slotN
    rw [e, if_pos (by decide), h2]
  · have e : fst noneB o = a := fst_hit (d := Dn.zero) h2 h1 h3
    refine ⟨?_, fun h => by omega, fun _ => e⟩
    unfold slotN
    rw [e, if_neg (by omega), Int.toNat_natCast]

set_option maxHeartbeats 8000000 in
theorem openR_any (x : Dv) (p fi fl c : Int) (w : World) (h : DIn w x) (hz : DSz x) :
    Calls Try.prog 11 #[dVal x, .int .i64 p, .int .i64 fi, .int .i64 fl, .int .i64 c] w (OutP w x (openD x.pl p fi fl c) (fun v => .tuple #[v, .int .i64 (openF x.pl p fi fl c), .int .i64 (openE x.pl p fi fl c)])) := by
  have HX := Lib.hid h
  have HC : Hid (∀ W, Below w.heap.size w W → Calls Try.prog 39 #[.agg #[.slice x.oa x.o.length x.oc, .slice x.ta x.t.length x.tc]] W fun e w' => ∃ y : Dv, e = .returned (.agg #[.slice y.oa y.o.length y.oc, .slice y.ta y.t.length y.tc]) ∧ y.pl = x.pl ∧ DOwn W.heap.size w' y ∧ Below W.heap.size W w') := fun W hb => copied_any x W (h.below hb) hz
  have HP : Hid (∀ (y : Dv) w', y.pl = openD x.pl p fi fl c → DAns w x w' y → Below w.heap.size w w' → OutP w x (openD x.pl p fi fl c) (fun v => .tuple #[v, .int .i64 (openF x.pl p fi fl c), .int .i64 (openE x.pl p fi fl c)]) (.returned (.tuple #[.agg #[.slice y.oa y.o.length y.oc, .slice y.ta y.t.length y.tc], .int .i64 (openF x.pl p fi fl c), .int .i64 (openE x.pl p fi fl c)])) w') := fun y w' h1 h2 h3 => ⟨y, rfl, h1, h2, h3⟩
  have HOE : Hid (openE x.pl p fi fl c = if procV x.pl p ≠ 0 then procV x.pl p else if (fixB fi fl && curB c) = false then 2 else if fst zeroB (tabAt x.pl p) < 0 then 3 else 0) := rfl
  have HOF : Hid (openF x.pl p fi fl c = if openE x.pl p fi fl c = 0 then fst zeroB (tabAt x.pl p) else 0) := rfl
  have HOD : Hid (openD x.pl p fi fl c = if openE x.pl p fi fl c = 0 then ⟨putD x.o ⟨fi, fl, 0, c, 1⟩, setE x.pl.t p.toNat (fst zeroB (tabAt x.pl p)).toNat ((slotN x.o : Int) + 1)⟩ else x.pl) := rfl
  have HTB : Hid (checkV x.pl = true → 0 ≤ p → p < (x.t.length : Int) → tabAt x.pl p = (x.t.getD p.toNat Tb.nil).l ∧ (tabAt x.pl p).length = 16 ∧ x.o.length ≤ 128) := fun h1 h2 h3 => by
    have h4 := check_tab h1 p.toNat (by rw [pl_t]; omega)
    exact ⟨map_getD x.t p.toNat (by omega), h4.1, (check_len h1).2.2⟩
  have HRZ : Hid (checkV x.pl = true → ∀ i, i < x.o.length → ((x.o.getD i Dn.zero).rf = 0 ↔ noneB (x.o.getD i Dn.zero) = true)) := fun h1 i hi => rf_none h1 i hi
  have HPV : Hid (procV x.pl p = if checkV x.pl = false then 1 else if p < 0 ∨ (x.t.length : Int) ≤ p then 2 else 0) := by unfold procV; rw [pl_t]; rfl
  have HCK : Hid (∀ W, Below w.heap.size w W → Calls Try.prog 24 #[.agg #[.slice x.oa x.o.length x.oc, .slice x.ta x.t.length x.tc]] W (RetW (.bool (checkV x.pl)) W)) := fun W hb => checkR_any' x W (h.below hb) hz.o hz.t
  have HRD : Hid (∀ W, Calls Try.prog 37 #[.agg #[.int .i64 fi, .int .i64 fl, .int .i64 0, .int .i64 c, .int .i64 1]] W (RetW (.bool (fixB fi fl && curB c)) W)) := fun W => by
    have e : rightD ⟨fi, fl, 0, c, 1⟩ = (fixB fi fl && curB c) := by
      unfold rightD movB
      simp
    rw [← e]
    exact right_doc ⟨fi, fl, 0, c, 1⟩ W
  have HFE : Hid (∀ W (k : Nat), Below w.heap.size w W → k < x.t.length → (x.t.getD k Tb.nil).l.length = 16 → Calls Try.prog 38 #[.agg #[.slice x.oa x.o.length x.oc, .slice x.ta x.t.length x.tc], .int .i64 (k : Int)] W (RetW (.int .i64 (fst zeroB (x.t.getD k Tb.nil).l)) W)) := fun W k hb h1 h2 => free_any x k W (h.below hb) h1 h2
  have hol := hz.o
  obtain ⟨W0, hW0⟩ : ∃ W0, W0 = (w.alloc (Obj.cells #[.slice x.oa x.o.length x.oc, .slice x.ta x.t.length x.tc] 29)).alloc (Obj.cells #[.slice none 0 0, .slice none 0 0] 29) := ⟨_, rfl⟩
  have hb0 : Below w.heap.size w W0 := by rw [hW0]; exact ((Below.refl _ w).alloc (Nat.le_refl _) _).alloc (by simp) _
  have hs0 : W0.heap.size = w.heap.size + 2 := by rw [hW0]; simp
  have hr0 : At W0 (w.heap.size + 1) [.slice none 0 0, .slice none 0 0] := by rw [hW0]; exact (At.new (w.alloc (Obj.cells #[.slice x.oa x.o.length x.oc, .slice x.ta x.t.length x.tc] 29)) [.slice none 0 0, .slice none 0 0] 29).cast (by simp)
  have hp0 : W0.cell? ⟨w.heap.size, 0, none⟩ = some (.slice x.oa x.o.length x.oc) := by rw [hW0]; simp
  have hp1 : W0.cell? ⟨w.heap.size, 1, none⟩ = some (.slice x.ta x.t.length x.tc) := by rw [hW0]; simp
  have HB0 := Lib.hid hb0
  have HS0 := Lib.hid hs0
  have HR0 := Lib.hid hr0
  have HP0 := Lib.hid hp0
  have HP1 := Lib.hid hp1
  clear hb0 hs0 hr0 h
  generalize OutP w x (openD x.pl p fi fl c) (fun v => .tuple #[v, .int .i64 (openF x.pl p fi fl c), .int .i64 (openE x.pl p fi fl c)]) = Post at *
  generalize openD x.pl p fi fl c = od at *
  generalize openF x.pl p fi fl c = of at *
  generalize openE x.pl p fi fl c = oe at *
  generalize procV x.pl p = pv at *
  generalize tabAt x.pl p = T at *
  generalize checkV x.pl = cv at *
  unfold dVal
  obtain ⟨w1, hw1⟩ : ∃ w1, w1 = W0.alloc (Obj.cells #[.int .i64 fi, .int .i64 fl, .int .i64 0, .int .i64 c, .int .i64 1] 34) := ⟨_, rfl⟩
  have hb1 : Below W0.heap.size W0 w1 := by rw [hw1]; exact (Below.refl _ _).alloc (Nat.le_refl _) _
  have hx1 : DCel w1 (w.heap.size + 2) 0 ⟨fi, fl, 0, c, 1⟩ := by rw [hw1, ← HS0.out]; exact DCel.new W0 ⟨fi, fl, 0, c, 1⟩
  have HXC : Hid (∀ W, Below w1.heap.size w1 W → DCel W (w.heap.size + 2) 0 ⟨fi, fl, 0, c, 1⟩) := fun W hb => hx1.below hb (by rw [hw1, alloc_size, HS0.out]; omega)
  have HR2 := Lib.hid (HR0.out.below hb1 HR0.out.hi)
  have HB2 := Lib.hid (HB0.out.trans (hb1.mono HB0.out.size))
  have k0 := (hb1.cell (p := ⟨w.heap.size, 0, none⟩) (World.block_lt_of_cell? _ _ hp0)).trans hp0
  have k1 := (hb1.cell (p := ⟨w.heap.size, 1, none⟩) (World.block_lt_of_cell? _ _ hp1)).trans hp1
  have hl2 : w.heap.size + 3 ≤ w1.heap.size := by rw [hw1, alloc_size, HS0.out]; omega
  obtain ⟨s0, s1, s2, s3, s4⟩ := hx1
  simp only [Nat.zero_add] at s0 s1 s2 s3 s4
  have HH1 : Hid (Below w1.heap.size w1 w1) := Below.refl _ _
  clear hb1 hp0 hp1 HB0 HS0 HR0 HP0 HP1
  go_enter Try.func11, Try.ntmps11
  go_upto_region 2 with (fail)
  rw [← hW0]
  rw [← hw1]
  clear hW0 hw1
  go_wp2_with fail
  refine (HCK.out w1 HB2.out).mono ?_
  rintro e w2 ⟨rfl, hb⟩
  replace HR2 := Lib.hid (HR2.out.below hb HR2.out.hi)
  replace HB2 := Lib.hid (HB2.out.trans (hb.mono HB2.out.size))
  replace k0 := (hb.cell (p := ⟨w.heap.size, 0, none⟩) (World.block_lt_of_cell? _ _ k0)).trans k0
  replace k1 := (hb.cell (p := ⟨w.heap.size, 1, none⟩) (World.block_lt_of_cell? _ _ k1)).trans k1
  replace hl2 := Nat.le_trans hl2 hb.size
  replace HH1 := Lib.hid (HH1.out.trans (hb.mono HH1.out.size))
  clear hb HCK s0 s1 s2 s3 s4
  cases cv with
  | false =>
    have hpv : Hid (pv = 1) := HPV.out
    have HOE2 : Hid (oe = 1) := by have := HOE.out; rw [if_pos (by rw [hpv.out]; decide), hpv.out] at this; exact this
    have HOF2 : Hid (of = 0) := by have := HOF.out; rw [if_neg (by rw [HOE2.out]; decide)] at this; exact this
    have HOD2 : Hid (od = x.pl) := by have := HOD.out; rw [if_neg (by rw [HOE2.out]; decide)] at this; exact this
    have HNEG : Hid ((0 : Int) ≤ 0) := Int.le_refl _
    obtain ⟨r0, r1, r2, r3, r4⟩ := HR2.out.two
    obtain ⟨hA5, hD5, hB5⟩ := ret_in HX.out HR2.out HB2.out (Nat.lt_succ_self _)
    have e0 := hA5.cell 0 _ rfl
    have e1 := hA5.cell 1 _ rfl
    have hpo := HP.out x _ (by rw [HOD2.out]) hD5 hB5
    rw [HOE2.out, HOF2.out] at hpo
    have HPo := Lib.hid hpo
    clear hA5 hD5 hB5 hpo
    go_wp2_with fail
    all_goals first | (exfalso; have := HNEG.out; omega) | (generalize ((w2.setCell ⟨w.heap.size + 1, 0, none⟩ (.slice x.oa x.o.length x.oc)).setCell ⟨w.heap.size + 1, 1, none⟩ (.slice x.ta x.t.length x.tc)) = w9 at *; exact bodyPost_ret (v := .tuple #[.agg #[.slice x.oa x.o.length x.oc, .slice x.ta x.t.length x.tc], .int .i64 0, .int .i64 1]) (by simp [results, Try.results11, go_sem, e0, e1]) rfl HPo.out)
  | true =>
    by_cases hp : p < 0 ∨ (x.t.length : Int) ≤ p
    · have hpv : Hid (pv = 2) := by have := HPV.out; rw [if_neg (by simp), if_pos hp] at this; exact this
      have HOE2 : Hid (oe = 2) := by have := HOE.out; rw [if_pos (by rw [hpv.out]; decide), hpv.out] at this; exact this
      have HOF2 : Hid (of = 0) := by have := HOF.out; rw [if_neg (by rw [HOE2.out]; decide)] at this; exact this
      have HOD2 : Hid (od = x.pl) := by have := HOD.out; rw [if_neg (by rw [HOE2.out]; decide)] at this; exact this
      have HNEG := Lib.hid hp
      clear hp
      obtain ⟨r0, r1, r2, r3, r4⟩ := HR2.out.two
      obtain ⟨hA5, hD5, hB5⟩ := ret_in HX.out HR2.out HB2.out (Nat.lt_succ_self _)
      have e0 := hA5.cell 0 _ rfl
      have e1 := hA5.cell 1 _ rfl
      have hpo := HP.out x _ (by rw [HOD2.out]) hD5 hB5
      rw [HOE2.out, HOF2.out] at hpo
      have HPo := Lib.hid hpo
      clear hA5 hD5 hB5 hpo
      go_wp2_with fail
      all_goals first | (exfalso; have := HNEG.out; omega) | (generalize ((w2.setCell ⟨w.heap.size + 1, 0, none⟩ (.slice x.oa x.o.length x.oc)).setCell ⟨w.heap.size + 1, 1, none⟩ (.slice x.ta x.t.length x.tc)) = w9 at *; exact bodyPost_ret (v := .tuple #[.agg #[.slice x.oa x.o.length x.oc, .slice x.ta x.t.length x.tc], .int .i64 0, .int .i64 2]) (by simp [results, Try.results11, go_sem, e0, e1]) rfl HPo.out)
    · have hpv : pv = 0 := by have := HPV.out; rw [if_neg (by simp), if_neg hp] at this; exact this
      subst hpv
      rw [if_neg (by simp)] at HOE
      obtain ⟨k, rfl⟩ : ∃ k : Nat, p = (k : Int) := ⟨p.toNat, by omega⟩
      have q1 : (k : Int) < (x.t.length : Int) := by omega
      obtain ⟨q2, q3, q4⟩ := HTB.out (by first | rfl | trivial) (by omega) q1
      rw [Int.toNat_natCast] at q2
      have Q2 := Lib.hid q2
      have Q3 := Lib.hid q3
      have HRF := Lib.hid (HRZ.out (by first | rfl | trivial))
      clear q2 q3 hp HPV HTB HRZ
      obtain ⟨s0, s1, s2, s3, s4⟩ := HXC.out _ HH1.out
      simp only [Nat.zero_add] at s0 s1 s2 s3 s4
      go_wp2_with fail
      refine (HRD.out w2).mono ?_
      rintro e w3 ⟨rfl, hb⟩
      replace HR2 := Lib.hid (HR2.out.below hb HR2.out.hi)
      replace HB2 := Lib.hid (HB2.out.trans (hb.mono HB2.out.size))
      replace k0 := (hb.cell (p := ⟨w.heap.size, 0, none⟩) (World.block_lt_of_cell? _ _ k0)).trans k0
      replace k1 := (hb.cell (p := ⟨w.heap.size, 1, none⟩) (World.block_lt_of_cell? _ _ k1)).trans k1
      replace hl2 := Nat.le_trans hl2 hb.size
      replace HH1 := Lib.hid (HH1.out.trans (hb.mono HH1.out.size))
      clear hb HRD s0 s1 s2 s3 s4
      generalize (fixB fi fl && curB c) = rb at *
      cases rb with
      | false =>
        have HOE2 : Hid (oe = 2) := by have := HOE.out; rw [if_pos rfl] at this; exact this
        have HOF2 : Hid (of = 0) := by have := HOF.out; rw [if_neg (by rw [HOE2.out]; decide)] at this; exact this
        have HOD2 : Hid (od = x.pl) := by have := HOD.out; rw [if_neg (by rw [HOE2.out]; decide)] at this; exact this
        have HNEG : Hid ((0 : Int) ≤ 0) := Int.le_refl _
        obtain ⟨r0, r1, r2, r3, r4⟩ := HR2.out.two
        obtain ⟨hA5, hD5, hB5⟩ := ret_in HX.out HR2.out HB2.out (Nat.lt_succ_self _)
        have e0 := hA5.cell 0 _ rfl
        have e1 := hA5.cell 1 _ rfl
        have hpo := HP.out x _ (by rw [HOD2.out]) hD5 hB5
        rw [HOE2.out, HOF2.out] at hpo
        have HPo := Lib.hid hpo
        clear hA5 hD5 hB5 hpo
        go_wp2_with fail
        all_goals first | (exfalso; have := HNEG.out; omega) | (generalize ((w3.setCell ⟨w.heap.size + 1, 0, none⟩ (.slice x.oa x.o.length x.oc)).setCell ⟨w.heap.size + 1, 1, none⟩ (.slice x.ta x.t.length x.tc)) = w9 at *; exact bodyPost_ret (v := .tuple #[.agg #[.slice x.oa x.o.length x.oc, .slice x.ta x.t.length x.tc], .int .i64 0, .int .i64 2]) (by simp [results, Try.results11, go_sem, e0, e1]) rfl HPo.out)
      | true =>
        rw [if_neg (by simp)] at HOE
        go_wp2_with fail
        have hfe := HFE.out w3 k HB2.out (by omega) (by rw [← Q2.out]; exact Q3.out)
        rw [← Q2.out] at hfe
        refine hfe.mono ?_
        clear hfe HFE
        rintro e w4 ⟨rfl, hb⟩
        replace HR2 := Lib.hid (HR2.out.below hb HR2.out.hi)
        replace HB2 := Lib.hid (HB2.out.trans (hb.mono HB2.out.size))
        replace k0 := (hb.cell (p := ⟨w.heap.size, 0, none⟩) (World.block_lt_of_cell? _ _ k0)).trans k0
        replace k1 := (hb.cell (p := ⟨w.heap.size, 1, none⟩) (World.block_lt_of_cell? _ _ k1)).trans k1
        replace hl2 := Nat.le_trans hl2 hb.size
        replace HH1 := Lib.hid (HH1.out.trans (hb.mono HH1.out.size))
        clear hb
        rcases fst_cases zeroB T 0 with ⟨hf, _⟩ | ⟨j, hf, hj, _, _⟩
        · rw [hf] at HOE HOF HOD ⊢
          have HOE2 : Hid (oe = 3) := by have := HOE.out; rw [if_pos (by decide)] at this; exact this
          have HOF2 : Hid (of = 0) := by have := HOF.out; rw [if_neg (by rw [HOE2.out]; decide)] at this; exact this
          have HOD2 : Hid (od = x.pl) := by have := HOD.out; rw [if_neg (by rw [HOE2.out]; decide)] at this; exact this
          have HNEG : Hid ((0 : Int) ≤ 0) := Int.le_refl _
          obtain ⟨r0, r1, r2, r3, r4⟩ := HR2.out.two
          obtain ⟨hA5, hD5, hB5⟩ := ret_in HX.out HR2.out HB2.out (Nat.lt_succ_self _)
          have e0 := hA5.cell 0 _ rfl
          have e1 := hA5.cell 1 _ rfl
          have hpo := HP.out x _ (by rw [HOD2.out]) hD5 hB5
          rw [HOE2.out, HOF2.out] at hpo
          have HPo := Lib.hid hpo
          clear hA5 hD5 hB5 hpo
          go_wp2_with fail
          all_goals first | (exfalso; have := HNEG.out; omega) | (generalize ((w4.setCell ⟨w.heap.size + 1, 0, none⟩ (.slice x.oa x.o.length x.oc)).setCell ⟨w.heap.size + 1, 1, none⟩ (.slice x.ta x.t.length x.tc)) = w9 at *; exact bodyPost_ret (v := .tuple #[.agg #[.slice x.oa x.o.length x.oc, .slice x.ta x.t.length x.tc], .int .i64 0, .int .i64 3]) (by simp [results, Try.results11, go_sem, e0, e1]) rfl HPo.out)
        · rw [hf] at HOE HOF HOD ⊢
          have HOE2 : Hid (oe = 0) := by have := HOE.out; rw [if_neg (by omega)] at this; exact this
          have HOF2 : Hid (of = j) := by have := HOF.out; rw [if_pos HOE2.out] at this; exact this
          have hod2 := HOD.out
          rw [if_pos HOE2.out, Int.toNat_natCast, Int.toNat_natCast] at hod2
          have hj16 : (j : Int) < 16 := by have := Q3.out; omega
          clear HOE HOF HOD
          go_wp2_with fail
          refine (HC.out w4 HB2.out).mono ?_
          rintro e w5 ⟨y, rfl, hpl, hown, hb⟩
          have HFR : Hid (Fr w x (w5.alloc (Obj.cells #[.slice y.oa y.o.length y.oc, .slice y.ta y.t.length y.tc] 29)) (w.heap.size + 3) (w.heap.size + 1) w5.heap.size y) := Fr.start k0 k1 HR2.out HB2.out (by omega) (Nat.lt_succ_self _) hl2 hown hb
          have HPL := Lib.hid hpl
          replace HH1 := Lib.hid ((HH1.out.trans (hb.mono HH1.out.size)).trans (((Below.refl w5.heap.size w5).alloc (Nat.le_refl _) (Obj.cells #[.slice y.oa y.o.length y.oc, .slice y.ta y.t.length y.tc] 29)).mono (Nat.le_trans HH1.out.size hb.size)))
          obtain ⟨w6, hw6⟩ : ∃ w6, w6 = w5.alloc (Obj.cells #[.slice y.oa y.o.length y.oc, .slice y.ta y.t.length y.tc] 29) := ⟨_, rfl⟩
          obtain ⟨O, hO⟩ : ∃ O, O = w5.heap.size := ⟨_, rfl⟩
          rw [← hw6] at HFR HH1
          rw [← hO] at HFR
          clear hpl hown hb HC k0 k1 HR2 HB2
          have hyt : y.t.length = x.t.length := by have := congrArg (fun d => d.t.length) HPL.out; simpa [Dv.pl] using this
          have hyo : y.o = x.o := congrArg De.o HPL.out
          have HPT : Hid (y.t.map Tb.l = x.pl.t) := congrArg De.t HPL.out
          have hyT : (y.t.getD k Tb.nil).l = T := by rw [← map_getD y.t k (by omega), HPT.out, Q2.out]; exact map_getD x.t k (by omega)
          have HYTT := Lib.hid hyT
          have hkt : k < y.t.length := by omega
          have q1y : (k : Int) < (y.t.length : Int) := by omega
          rw [← hyo] at hod2 HRF q4
          clear hyt hyo hyT
          go_upto_region 10 with (fail)
          rw [← hw6, ← hO]
          clear hw6 hO
          obtain ⟨x0, x1, x2, x3, x4⟩ := HFR.out.wk.box.cc
          have hol4 : (y.o.length : Int) ≤ 128 := by omega
          go_wp2_with fail
          go_loopw [16, 17] (fun v16 v17 wr => ∃ (i a : Nat), i ≤ y.o.length ∧ v17 = .int .i64 ((i : Int) - 1) ∧ v16 = .int .i64 (a : Int) ∧ Hid ((∀ j, i ≤ j → j < a → noneB (y.o.getD j Dn.zero) = false) ∧ (a = y.o.length ∨ (i ≤ a ∧ a < y.o.length ∧ noneB (y.o.getD a Dn.zero) = true))) ∧ wr = w6) (fun _ v17 _ => (intOf v17 + 1).toNat)
          case atStart => exact ⟨y.o.length, y.o.length, Nat.le_refl _, rfl, rfl, ⟨fun j h1 h2 => by omega, Or.inl rfl⟩, rfl⟩
          case round =>
            obtain ⟨i, a, hi, rfl, rfl, HI, rfl⟩ := hrel
            by_cases hi0 : 0 < i
            · obtain ⟨i', rfl⟩ : ∃ i', i = i' + 1 := ⟨i - 1, by omega⟩
              have hi' : i' < y.o.length := by omega
              obtain ⟨g3, b1, b2, b3, b4, b5, b6, b7⟩ := HFR.out.wk.own.descAt i' hi'
              have k4 := b4.c4
              have hrf := HRF.out i' hi'
              have HN0 : Hid ((y.o.getD i' Dn.zero).rf ≠ 0 → (∀ j, i' ≤ j → j < a → noneB (y.o.getD j Dn.zero) = false) ∧ (a = y.o.length ∨ (i' ≤ a ∧ a < y.o.length ∧ noneB (y.o.getD a Dn.zero) = true))) := fun hh => by
                refine ⟨fun j h1 h2 => ?_, HI.out.2.imp id (fun h => ⟨by omega, h.2⟩)⟩
                by_cases e : j = i'
                · rw [e]
                  cases hb : noneB (y.o.getD i' Dn.zero)
                  · rfl
                  · exact absurd (hrf.2 hb) hh
                · exact HI.out.1 j (by omega) h2
              have HN1 : Hid ((y.o.getD i' Dn.zero).rf = 0 → (∀ j, i' ≤ j → j < i' → noneB (y.o.getD j Dn.zero) = false) ∧ (i' = y.o.length ∨ (i' ≤ i' ∧ i' < y.o.length ∧ noneB (y.o.getD i' Dn.zero) = true))) := fun hh => ⟨fun j h1 h2 => by omega, Or.inr ⟨Nat.le_refl _, hi', hrf.1 hh⟩⟩
              rw [b1] at x0
              have hcast : ((i' + 1 : Nat) : Int) - 1 = (i' : Int) := by omega
              rw [hcast]
              have h0i : (0 : Int) ≤ (i' : Int) := by omega
              have hii : (i' : Int) < (y.o.length : Int) := by omega
              clear b4 b5 hrf hcast
              generalize (y.o.getD i' Dn.zero).rf = rf at *
              by_cases hr0 : rf = 0
              · subst hr0
                have HV := Lib.hid (HN1.out rfl)
                go_wp2_with fail
                go_roundw
                case rel => exact ⟨i', i', by omega, by go_num, rfl, HV, trivial⟩
                case measure => first | (simp [intOf]; done) | (simp [intOf]; omega)
              · have HV := Lib.hid (HN0.out hr0)
                have hr1 : (rf == 0) = false := by simpa using hr0
                go_wp2_with fail
                go_roundw
                case rel => exact ⟨i', a, by omega, by go_num, rfl, HV, trivial⟩
                case measure => first | (simp [intOf]; done) | (simp [intOf]; omega)
            · obtain rfl : i = 0 := by omega
              have hsl := slot_at (o := y.o) (a := a) (fun j hj => HI.out.1 j (Nat.zero_le _) hj) (HI.out.2.imp id (fun h => h.2))
              have HSL := Lib.hid hsl
              have ha : a ≤ y.o.length := by rcases HI.out.2 with h | h <;> omega
              clear hsl HI HRF
              by_cases hal : a < y.o.length
              · have hod3 := hod2
                unfold putD at hod3
                rw [HSL.out.1, HSL.out.2.2 hal, if_neg (by omega), Int.toNat_natCast] at hod3
                have HOD2 := Lib.hid hod3
                obtain ⟨g3, b1, b2, b3, b4, b5, b6, b7⟩ := HFR.out.wk.own.descAt a hal
                have hth := there5 b4 b5
                have hOA : y.oa = some ⟨g3, 0, none⟩ := b1
                have ham : (a : Int) < (y.o.length : Int) := by omega
                have ham0 : (0 : Int) ≤ (a : Int) := by omega
                obtain ⟨s0, s1, s2, s3, s4⟩ := HXC.out _ HH1.out
                simp only [Nat.zero_add] at s0 s1 s2 s3 s4
                rw [b1] at x0
                clear hod2 hod3 HSL
                go_wp2_with (with_reducible refine hold_store 34 rfl ?_)
                clear x0 x1 x2 x3 x4 s0 s1 s2 s3 s4
                refine store_ato (a * 5) (Dn.cells ⟨fi, fl, 0, c, 1⟩) hth rfl size34 (by simp [Dn.cells, Value.oneCell']) rfl rfl rfl rfl ?_
                have hwk8 := HFR.out.wk.putO b1 a hal ⟨fi, fl, 0, c, 1⟩
                intro w8 hw8
                rw [← hw8] at hwk8
                have hbel8 : Below (w.heap.size + 3) wr w8 := by rw [hw8]; exact below_cells b6 _ _ (Below.refl _ _)
                have HF8 := Lib.hid (HFR.out.turn hbel8 hwk8)
                clear hw8 hwk8 hbel8 b1 b2 b3 b4 b5 b6 b7 HFR
                obtain ⟨g4, g5, c1, c2, c3, c4, c5, c6, c7, c8, c9, c10, c11, c12⟩ := HF8.out.wk.own.tabAt k hkt (by show 0 < (y.t.getD k Tb.nil).l.length; rw [HYTT.out, Q3.out]; omega)
                simp only at c1 c2 c3 c4 c5 c6 c7 c8
                have hyT := HYTT.out
                have q3 := Q3.out
                rw [hyT] at c5 c6 c8
                have c8j := c8 j (by omega)
                generalize hcT : (y.t.getD k Tb.nil).c = cT2 at c5 c6 c7
                generalize T.getD j 0 = zj at c8j
                clear hcT
                have c9j := c9 j
                have nO := HF8.out.wk.neT k hkt c4
                have nR : w.heap.size + 1 ≠ g5 := by omega
                have HF9 := Lib.hid (HF8.out.turn ((Below.refl (w.heap.size + 3) w8).setCell (p := ⟨g5, j, none⟩) c10 (.int .i64 ((a : Int) + 1))) (HF8.out.wk.putT k hkt c4 j ((a : Int) + 1)))
                obtain ⟨hA5, hD5, hB5⟩ := HF9.out.fin
                simp only [tset_len, List.length_set, List.length_append, List.length_singleton, c1, hOA] at hA5 hD5 hB5
                have e0 := hA5.cell 0 _ rfl
                have e1 := hA5.cell 1 _ rfl
                have hpo := HP.out _ _ (by rw [HOD2.out]; exact De.ext' rfl (by show (tset y.t k j _).map Tb.l = _; rw [tset_pl, HPT.out])) hD5 hB5
                rw [HOE2.out, HOF2.out] at hpo
                simp only [tset_len, List.length_set, List.length_append, List.length_singleton] at hpo
                have HPo := Lib.hid hpo
                obtain ⟨r0, r1, r2, r3, r4⟩ := HF8.out.r.two
                obtain ⟨x0, x1, x2, x3, x4⟩ := HF8.out.wk.box.cc
                simp only [List.length_set, List.length_append, List.length_singleton, c1, hOA] at x0 x1
                have hNb : (a : Int) ≤ 20000 := by omega
                clear hA5 hD5 hB5 hpo c8 c9 hyT q3 c4 c1 hOA HF8
                go_wp2_with fail
                generalize ((w8.setCell ⟨g5, j, none⟩ (.int .i64 ((a : Int) + 1))).setCell ⟨w.heap.size + 1, 0, none⟩ (.slice (some ⟨g3, 0, none⟩) y.o.length y.oc)).setCell ⟨w.heap.size + 1, 1, none⟩ (.slice (some ⟨g4, 0, none⟩) y.t.length y.tc) = w9 at *
                exact bodyPost_ret (v := .tuple #[.agg #[.slice (some ⟨g3, 0, none⟩) y.o.length y.oc, .slice (some ⟨g4, 0, none⟩) y.t.length y.tc], .int .i64 j, .int .i64 0]) (by simp [results, Try.results11, go_sem, e0, e1]) rfl HPo.out
              · obtain rfl : a = y.o.length := by omega
                have hod3 := hod2
                unfold putD at hod3
                rw [HSL.out.1, HSL.out.2.1 rfl, if_pos (by decide)] at hod3
                have HOD2 := Lib.hid hod3
                clear hod2 hod3 HSL
                obtain ⟨W4, hW4⟩ : ∃ W4, W4 = wr.alloc (Obj.cells #[.int .i64 fi, .int .i64 fl, .int .i64 0, .int .i64 c, .int .i64 1] 34) := ⟨_, rfl⟩
                have hb4 : Below wr.heap.size wr W4 := by rw [hW4]; exact (Below.refl _ _).alloc (Nat.le_refl _) _
                have hv4 : W4.rangeAt wr.heap.size 0 (Dn.cells ⟨fi, fl, 0, c, 1⟩) := by rw [hW4]; exact (At.new wr (Dn.cells ⟨fi, fl, 0, c, 1⟩) 34).r
                have HF4 := HFR.out.below hb4
                have hle4 : w.heap.size + 3 ≤ W4.heap.size := by have := HF4.wk.lo; have := HF4.wk.box.at'.hi; omega
                obtain ⟨aN, cN, wN, hrun, hown, hbox, hbN⟩ := append_desc W4 (w.heap.size + 3) O y ⟨fi, fl, 0, c, 1⟩ wr.heap.size HF4.wk hv4 (by omega) hle4
                have HAP := Lib.hid hrun
                obtain ⟨wA, hwA⟩ : ∃ wA, wA = wN.setCell ⟨O, 0, none⟩ (.slice aN (y.o.length + 1) cN) := ⟨_, rfl⟩
                have hwkA : Wk (w.heap.size + 3) wA O ⟨aN, cN, y.o ++ [⟨fi, fl, 0, c, 1⟩], y.ta, y.tc, y.t⟩ := by rw [hwA]; exact Wk.boxO hown hbox HFR.out.wk.lo (by simp)
                have hbelA : Below (w.heap.size + 3) W4 wA := by rw [hwA]; exact hbN.setCell (p := ⟨O, 0, none⟩) HFR.out.wk.lo _
                have HF8 := Lib.hid (HF4.turn hbelA hwkA)
                obtain ⟨z0, z1, z2, z3, z4⟩ := hbox.cc
                obtain ⟨s0, s1, s2, s3, s4⟩ := HXC.out _ HH1.out
                simp only [Nat.zero_add] at s0 s1 s2 s3 s4
                clear HFR hrun hown hbox hbN hwkA hbelA HF4 hb4 hv4
                go_upto_region 19 with (at_builtin; rw [← hW4]; clear hW4; refine Lib.wpList_append_run _ rfl _ _ _ _ rfl _ _ rfl rfl _ _ HAP.out ?_)
                rw [← hwA]
                clear hwA HAP z0 z1 z2 z3 z4 x0 x1 x2 x3 x4 s0 s1 s2 s3 s4
                have hOA : (0 : Nat) = 0 := rfl
                obtain ⟨g4, g5, c1, c2, c3, c4, c5, c6, c7, c8, c9, c10, c11, c12⟩ := HF8.out.wk.own.tabAt k hkt (by show 0 < (y.t.getD k Tb.nil).l.length; rw [HYTT.out, Q3.out]; omega)
                simp only at c1 c2 c3 c4 c5 c6 c7 c8
                have hyT := HYTT.out
                have q3 := Q3.out
                rw [hyT] at c5 c6 c8
                have c8j := c8 j (by omega)
                generalize hcT : (y.t.getD k Tb.nil).c = cT2 at c5 c6 c7
                generalize T.getD j 0 = zj at c8j
                clear hcT
                have c9j := c9 j
                have nO := HF8.out.wk.neT k hkt c4
                have nR : w.heap.size + 1 ≠ g5 := by omega
                have HF9 := Lib.hid (HF8.out.turn ((Below.refl (w.heap.size + 3) wA).setCell (p := ⟨g5, j, none⟩) c10 (.int .i64 ((y.o.length : Int) + 1))) (HF8.out.wk.putT k hkt c4 j ((y.o.length : Int) + 1)))
                obtain ⟨hA5, hD5, hB5⟩ := HF9.out.fin
                simp only [tset_len, List.length_set, List.length_append, List.length_singleton, c1] at hA5 hD5 hB5
                have e0 := hA5.cell 0 _ rfl
                have e1 := hA5.cell 1 _ rfl
                have hpo := HP.out _ _ (by rw [HOD2.out]; exact De.ext' rfl (by show (tset y.t k j _).map Tb.l = _; rw [tset_pl, HPT.out])) hD5 hB5
                rw [HOE2.out, HOF2.out] at hpo
                simp only [tset_len, List.length_set, List.length_append, List.length_singleton] at hpo
                have HPo := Lib.hid hpo
                obtain ⟨r0, r1, r2, r3, r4⟩ := HF8.out.r.two
                obtain ⟨x0, x1, x2, x3, x4⟩ := HF8.out.wk.box.cc
                simp only [List.length_set, List.length_append, List.length_singleton, c1] at x0 x1
                have hNb : (y.o.length : Int) ≤ 20000 := by omega
                clear hA5 hD5 hB5 hpo c8 c9 hyT q3 c4 c1 hOA HF8
                go_wp2_with fail
                generalize ((wA.setCell ⟨g5, j, none⟩ (.int .i64 ((y.o.length : Int) + 1))).setCell ⟨w.heap.size + 1, 0, none⟩ (.slice aN (y.o.length + 1) cN)).setCell ⟨w.heap.size + 1, 1, none⟩ (.slice (some ⟨g4, 0, none⟩) y.t.length y.tc) = w9 at *
                exact bodyPost_ret (v := .tuple #[.agg #[.slice aN (y.o.length + 1) cN, .slice (some ⟨g4, 0, none⟩) y.t.length y.tc], .int .i64 j, .int .i64 0]) (by simp [results, Try.results11, go_sem, e0, e1]) rfl HPo.out
end Go.Proofs.Ytflcbefomjlgmaa
