/- Layer 46, shared texts of this seat, part 07. -/
import Derived.Test.YtimhaidiclbnhaaGreatM04
import Derived.Test.YtimhaidiclbnhaaGreatM06
/- Lookup. -/
set_option maxRecDepth 100000
set_option linter.unusedSimpArgs false
set_option linter.unusedVariables false
namespace Go.Proofs.YtimhaidiclbnhaaGreat.Des
open Go.ChangeShapes Go.WideShapes Go.ChangeAt Go.RowKit

theorem num_ok {d : De} {p f : Int} (h : numE d p f = 0) : checkV d = true ∧ 0 ≤ p ∧ p < (d.t.length : Int) ∧ 0 ≤ f ∧ f < 16 ∧ ∃ q : Nat, q < d.o.length ∧ numV d p f = (q : Int) ∧ entAt d p f = (q : Int) + 1 := by
  have hp : procV d p = 0 := by
    unfold numE at h
    by_cases hp : procV d p = 0
    · exact hp
    · rw [if_pos hp] at h; exact h
  have h2 : ¬ (f < 0 ∨ 16 ≤ f ∨ entAt d p f = 0) := fun hh => by
    unfold numE at h
    rw [if_neg (by omega), if_pos hh] at h; cases h
  obtain ⟨c1, c2, c3⟩ := procV_ok hp
  have h3 := (check_tab c1 p.toNat (by omega)).2 f.toNat (by omega)
  have h4 : entAt d p f = (d.t.getD p.toNat []).getD f.toNat 0 := rfl
  rw [← h4] at h3
  refine ⟨c1, c2, c3, by omega, by omega, (entAt d p f - 1).toNat, by omega, ?_, by omega⟩
  unfold numV
  rw [if_pos h]
  omega
def lookV (d : De) (p f : Int) : Dn := if numE d p f = 0 then d.o.getD (numV d p f).toNat Dn.zero else Dn.zero
def lookR (d : De) (p f : Int) : Value := .tuple #[.int .i64 (numV d p f), dnVal (lookV d p f), .int .i64 (numE d p f)]
theorem At.drew {W : World} {b : Nat} {cs : List Value} (h : At W b cs) : At W.drew b cs := ⟨h.r, h.t, h.hi⟩
def Z5 : List Value := [.int .i64 0, .int .i64 0, .int .i64 0, .int .i64 0, .int .i64 0]
theorem At.five {W : World} {b : Nat} {a0 a1 a2 a3 a4 : Value} (h : At W b [a0, a1, a2, a3, a4]) : (W.cell? ⟨b, 0, none⟩ = some a0 ∧ W.cell? ⟨b, 1, none⟩ = some a1 ∧ W.cell? ⟨b, 2, none⟩ = some a2 ∧ W.cell? ⟨b, 3, none⟩ = some a3 ∧ W.cell? ⟨b, 4, none⟩ = some a4) ∧ (W.frozen? ⟨b, 0, none⟩ = false ∧ W.frozen? ⟨b, 1, none⟩ = false ∧ W.frozen? ⟨b, 2, none⟩ = false ∧ W.frozen? ⟨b, 3, none⟩ = false ∧ W.frozen? ⟨b, 4, none⟩ = false) ∧ b < W.heap.size :=
  ⟨⟨h.cell 0 _ rfl, h.cell 1 _ rfl, h.cell 2 _ rfl, h.cell 3 _ rfl, h.cell 4 _ rfl⟩, ⟨h.free 0 (by simp), h.free 1 (by simp), h.free 2 (by simp), h.free 3 (by simp), h.free 4 (by simp)⟩, h.hi⟩

set_option maxHeartbeats 4000000 in
theorem lookup_any (x : Dv) (p f : Int) (w : World) (h : DIn w x) (hz : DSz x) :
    Calls Tryz.prog 123 #[dVal x, .int .i64 p, .int .i64 f] w (RetW (lookR x.pl p f) w) := by
  have HC := Lib.hid (fun W hb => number_any x p f W (h.below hb) hz)
  have HD := Lib.hid h.descs
  have HOK : Hid (numE x.pl p f = 0 → ∃ q : Nat, q < x.o.length ∧ numV x.pl p f = (q : Int)) := fun hh => by
    obtain ⟨_, _, _, _, _, q, h1, h2, _⟩ := num_ok hh
    exact ⟨q, h1, h2⟩
  have HL : Hid (lookR x.pl p f = .tuple #[.int .i64 (numV x.pl p f), dnVal (if numE x.pl p f = 0 then x.o.getD (numV x.pl p f).toNat Dn.zero else Dn.zero), .int .i64 (numE x.pl p f)]) := rfl
  have hol := hz.o
  have HNZ : Hid (numE x.pl p f ≠ 0 → numV x.pl p f = 0) := fun hh => by unfold numV; rw [if_neg hh]
  clear h hz
  generalize lookR x.pl p f = LR at *
  generalize numE x.pl p f = ne at *
  generalize numV x.pl p f = nv at *
  unfold dVal at HC ⊢
  obtain ⟨oa, oc, o, ta, tc, t⟩ := x
  simp only at HC HD HOK HL hol
  obtain ⟨W0, hW0⟩ : ∃ W0, W0 = (w.alloc (Obj.cells #[.slice oa o.length oc, .slice ta t.length tc] 83)).alloc (Obj.cells Z5.toArray 126) := ⟨_, rfl⟩
  have hb0 : Below w.heap.size w W0 := by rw [hW0]; exact ((Below.refl _ w).alloc (Nat.le_refl _) _).alloc (by simp) _
  have hs0 : W0.heap.size = w.heap.size + 2 := by rw [hW0]; simp
  have hB0 : At W0 (w.heap.size + 1) Z5 := by rw [hW0]; exact (At.new (w.alloc (Obj.cells #[.slice oa o.length oc, .slice ta t.length tc] 83)) Z5 126).cast (by simp)
  have hp0 : W0.cell? ⟨w.heap.size, 0, none⟩ = some (.slice oa o.length oc) := by rw [hW0]; simp
  have hp1 : W0.cell? ⟨w.heap.size, 1, none⟩ = some (.slice ta t.length tc) := by rw [hW0]; simp
  have HB0 := Lib.hid hb0
  have HS0 := Lib.hid hs0
  have HA0 := Lib.hid hB0
  clear hb0 hs0 hB0
  simp only [Z5] at hW0
  go_enter Tryz.func123, Tryz.ntmps123
  go_wp2_with fail
  rw [← hW0]
  refine (HC.out W0 HB0.out).mono ?_
  rintro e w2 ⟨rfl, hb⟩
  have hk0 : w2.cell? ⟨w.heap.size, 0, none⟩ = some (.slice oa o.length oc) := (hb.cell (p := ⟨w.heap.size, 0, none⟩) (by rw [HS0.out]; simp)).trans hp0
  have HA := HA0.out.below hb HA0.out.hi
  have HB : Hid (Below w.heap.size w w2) := HB0.out.trans (hb.mono (by rw [HS0.out]; omega))
  clear hp0 hp1 hW0 hb HA0 HC
  unfold Z5 at HA
  have HAA := Lib.hid HA
  obtain ⟨⟨c0, c1, c2, c3, c4⟩, ⟨y0, y1, y2, y3, y4⟩, hlt⟩ := HA.five
  clear HA
  by_cases hne : ne = 0
  · subst hne
    obtain ⟨q, hq, rfl⟩ := HOK.out rfl
    obtain ⟨g, of, rfl, hca, hcb, hcel⟩ := HD.out w2 HB.out q hq
    rw [if_pos rfl, Int.toNat_natCast] at HL
    have hq' : (q : Int) < (o.length : Int) := by omega
    generalize o.getD q Dn.zero = a at *
    obtain ⟨fi, fl, ff, cu, rf⟩ := a
    obtain ⟨k0, k1, k2, k3, k4⟩ := hcel
    simp only at k0 k1 k2 k3 k4
    have hw5 := HAA.out.store [.int .i64 fi, .int .i64 fl, .int .i64 ff, .int .i64 cu, .int .i64 rf] rfl
    have hb5 : Below w.heap.size w (w2.setCells (w.heap.size + 1) 0 [.int .i64 fi, .int .i64 fl, .int .i64 ff, .int .i64 cu, .int .i64 rf]) := below_cells (by omega) _ _ HB.out
    simp only [World.setCells] at hw5 hb5
    have hw6 := hw5.drew
    have hb6 := hb5.drew
    clear hw5 hb5
    go_wp2_with fail
    go_region
    generalize (((((w2.setCell { block := w.heap.size + 1, off := 0 } (Value.int IntKind.i64 fi)).setCell { block := w.heap.size + 1, off := 1 } (Value.int IntKind.i64 fl)).setCell { block := w.heap.size + 1, off := 2 } (Value.int IntKind.i64 ff)).setCell { block := w.heap.size + 1, off := 3 } (Value.int IntKind.i64 cu)).setCell { block := w.heap.size + 1, off := 4 } (Value.int IntKind.i64 rf)).drew = w5 at *
    obtain ⟨⟨d0, d1, d2, d3, d4⟩, _, _⟩ := hw6.five
    go_wp2_with fail
    refine bodyPost_ret (v := .tuple #[.int .i64 q, .agg #[.int .i64 fi, .int .i64 fl, .int .i64 ff, .int .i64 cu, .int .i64 rf], .int .i64 0]) (by simp [results, Tryz.results123, go_sem, d0, d1, d2, d3, d4]) rfl ?_
    exact ⟨by rw [HL.out]; rfl, hb6⟩
  · have HL2 := HL.out
    rw [if_neg hne, HNZ.out hne] at HL2
    replace HL2 := Lib.hid HL2
    have hw5 := HAA.out.store [.int .i64 0, .int .i64 0, .int .i64 0, .int .i64 0, .int .i64 0] rfl
    have hb5 : Below w.heap.size w (w2.setCells (w.heap.size + 1) 0 [.int .i64 0, .int .i64 0, .int .i64 0, .int .i64 0, .int .i64 0]) := below_cells (by omega) _ _ HB.out
    simp only [World.setCells] at hw5 hb5
    go_wp2_with fail
    generalize ((((w2.setCell { block := w.heap.size + 1, off := 0 } (Value.int IntKind.i64 0)).setCell { block := w.heap.size + 1, off := 1 } (Value.int IntKind.i64 0)).setCell { block := w.heap.size + 1, off := 2 } (Value.int IntKind.i64 0)).setCell { block := w.heap.size + 1, off := 3 } (Value.int IntKind.i64 0)).setCell { block := w.heap.size + 1, off := 4 } (Value.int IntKind.i64 0) = w5 at *
    have d5 := hw5.five
    obtain ⟨⟨d0, d1, d2, d3, d4⟩, _, _⟩ := d5
    refine bodyPost_ret (v := .tuple #[.int .i64 0, .agg #[.int .i64 0, .int .i64 0, .int .i64 0, .int .i64 0, .int .i64 0], .int .i64 ne]) (by simp [results, Tryz.results123, go_sem, d0, d1, d2, d3, d4]) rfl ?_
    exact ⟨by rw [HL2.out]; rfl, hb5⟩
end Go.Proofs.YtimhaidiclbnhaaGreat.Des
/- Dup. -/
set_option maxRecDepth 100000
set_option linter.unusedSimpArgs false
set_option linter.unusedVariables false
namespace Go.Proofs.YtimhaidiclbnhaaGreat.Des
open Go.ChangeShapes Go.WideShapes Go.ChangeAt Go.RowKit

theorem rf_bd {d : De} (h : checkV d = true) (i : Nat) (hi : i < d.o.length) : 0 ≤ (d.o.getD i Dn.zero).rf ∧ (d.o.getD i Dn.zero).rf ≤ 128 := by
  have hl := check_len h
  unfold checkV at h
  rw [Bool.and_eq_true, Bool.and_eq_true] at h
  have h1 := List.all_eq_true.1 h.2 i (List.mem_range.2 hi)
  unfold itemB at h1
  rw [Bool.and_eq_true] at h1
  have h2 := of_decide_eq_true h1.1
  have h3 := refC_bd h.1.1 i hi
  omega

set_option maxHeartbeats 8000000 in
theorem dup_any (x : Dv) (p f : Int) (w : World) (h : DIn w x) (hz : DSz x) :
    Calls Tryz.prog 113 #[dVal x, .int .i64 p, .int .i64 f] w (OutP w x (dupD x.pl p f) (fun v => .tuple #[v, .int .i64 (dupF x.pl p f), .int .i64 (dupE x.pl p f)])) := by
  have HX := Lib.hid h
  have HC : Hid (∀ W, Below w.heap.size w W → Calls Tryz.prog 116 #[.agg #[.slice x.oa x.o.length x.oc, .slice x.ta x.t.length x.tc]] W fun e w' => ∃ y : Dv, e = .returned (.agg #[.slice y.oa y.o.length y.oc, .slice y.ta y.t.length y.tc]) ∧ y.pl = x.pl ∧ DOwn W.heap.size w' y ∧ Below W.heap.size W w') := fun W hb => clone_any x W (h.below hb) hz
  have HNU : Hid (∀ W, Below w.heap.size w W → Calls Tryz.prog 122 #[.agg #[.slice x.oa x.o.length x.oc, .slice x.ta x.t.length x.tc], .int .i64 p, .int .i64 f] W (RetW (.tuple #[.int .i64 (numV x.pl p f), .int .i64 (numE x.pl p f)]) W)) := fun W hb => number_any x p f W (h.below hb) hz
  have HP : Hid (∀ (y : Dv) w', y.pl = dupD x.pl p f → DAns w x w' y → Below w.heap.size w w' → OutP w x (dupD x.pl p f) (fun v => .tuple #[v, .int .i64 (dupF x.pl p f), .int .i64 (dupE x.pl p f)]) (.returned (.tuple #[.agg #[.slice y.oa y.o.length y.oc, .slice y.ta y.t.length y.tc], .int .i64 (dupF x.pl p f), .int .i64 (dupE x.pl p f)])) w') := fun y w' h1 h2 h3 => ⟨y, rfl, h1, h2, h3⟩
  have HOE : Hid (dupE x.pl p f = if numE x.pl p f ≠ 0 then numE x.pl p f else if fst zeroB (tabAt x.pl p) < 0 then 3 else 0) := rfl
  have HOF : Hid (dupF x.pl p f = if dupE x.pl p f = 0 then fst zeroB (tabAt x.pl p) else 0) := rfl
  have HOD : Hid (dupD x.pl p f = if dupE x.pl p f = 0 then ⟨bumpL x.o (numV x.pl p f).toNat 1, setE x.pl.t p.toNat (fst zeroB (tabAt x.pl p)).toNat (numV x.pl p f + 1)⟩ else x.pl) := rfl
  have HTB : Hid (numE x.pl p f = 0 → 0 ≤ p ∧ p < (x.t.length : Int) ∧ tabAt x.pl p = (x.t.getD p.toNat Tb.nil).l ∧ (tabAt x.pl p).length = 16 ∧ x.o.length ≤ 128 ∧ ∃ q : Nat, q < x.o.length ∧ numV x.pl p f = (q : Int) ∧ 0 ≤ (x.o.getD q Dn.zero).rf ∧ (x.o.getD q Dn.zero).rf ≤ 128) := fun hp => by
    obtain ⟨h1, h2, h3, _, _, q, h5, h6, _⟩ := num_ok hp
    rw [pl_t] at h3
    have h4 := check_tab h1 p.toNat (by rw [pl_t]; omega)
    have h7 := rf_bd h1 q h5
    exact ⟨h2, h3, map_getD x.t p.toNat (by omega), h4.1, (check_len h1).2.2, q, h5, h6, h7.1, h7.2⟩
  obtain ⟨W0, hW0⟩ : ∃ W0, W0 = (w.alloc (Obj.cells #[.slice x.oa x.o.length x.oc, .slice x.ta x.t.length x.tc] 83)).alloc (Obj.cells #[.slice none 0 0, .slice none 0 0] 83) := ⟨_, rfl⟩
  have hb0 : Below w.heap.size w W0 := by rw [hW0]; exact ((Below.refl _ w).alloc (Nat.le_refl _) _).alloc (by simp) _
  have hs0 : W0.heap.size = w.heap.size + 2 := by rw [hW0]; simp
  have hr0 : At W0 (w.heap.size + 1) [.slice none 0 0, .slice none 0 0] := by rw [hW0]; exact (At.new (w.alloc (Obj.cells #[.slice x.oa x.o.length x.oc, .slice x.ta x.t.length x.tc] 83)) [.slice none 0 0, .slice none 0 0] 83).cast (by simp)
  have hp0 : W0.cell? ⟨w.heap.size, 0, none⟩ = some (.slice x.oa x.o.length x.oc) := by rw [hW0]; simp
  have hp1 : W0.cell? ⟨w.heap.size, 1, none⟩ = some (.slice x.ta x.t.length x.tc) := by rw [hW0]; simp
  have HB0 := Lib.hid hb0
  have HS0 := Lib.hid hs0
  have HR0 := Lib.hid hr0
  have HP0 := Lib.hid hp0
  have HP1 := Lib.hid hp1
  clear hb0 hs0 hr0 h
  generalize OutP w x (dupD x.pl p f) (fun v => .tuple #[v, .int .i64 (dupF x.pl p f), .int .i64 (dupE x.pl p f)]) = Post at *
  generalize dupD x.pl p f = od at *
  generalize dupF x.pl p f = of at *
  generalize dupE x.pl p f = oe at *
  generalize numE x.pl p f = ne at *
  generalize numV x.pl p f = nv at *
  generalize tabAt x.pl p = T at *
  unfold dVal
  go_enter Tryz.func113, Tryz.ntmps113
  go_wp2_with fail
  rw [← hW0]
  refine (HC.out W0 HB0.out).mono ?_
  rintro e w1 ⟨y, rfl, hpl, hown, hb⟩
  have HFR : Hid (Fr w x (w1.alloc (Obj.cells #[.slice y.oa y.o.length y.oc, .slice y.ta y.t.length y.tc] 83)) (w.heap.size + 2) (w.heap.size + 1) w1.heap.size y) := Fr.start HP0.out HP1.out HR0.out HB0.out (Nat.lt_succ_self _) (Nat.lt_succ_self _) (by rw [HS0.out]; exact Nat.le_refl _) hown hb
  have HPL := Lib.hid hpl
  have hk0 : w1.cell? ⟨w.heap.size, 0, none⟩ = some (.slice x.oa x.o.length x.oc) := (hb.cell (p := ⟨w.heap.size, 0, none⟩) (by rw [HS0.out]; simp)).trans hp0
  have hk1 : w1.cell? ⟨w.heap.size, 1, none⟩ = some (.slice x.ta x.t.length x.tc) := (hb.cell (p := ⟨w.heap.size, 1, none⟩) (by rw [HS0.out]; simp)).trans hp1
  have hl1 : w.heap.size < w1.heap.size := by have := hb.size; rw [HS0.out] at this; omega
  have hl2 : w.heap.size + 2 ≤ w1.heap.size := by have := hb.size; rw [HS0.out] at this; omega
  obtain ⟨O, hO⟩ : ∃ O, O = w1.heap.size := ⟨_, rfl⟩
  clear hpl hown hb hW0 HC hp0 hp1 HB0 HS0 HR0 HP0 HP1
  go_wp2_with fail
  generalize w1.alloc (Obj.cells #[.slice y.oa y.o.length y.oc, .slice y.ta y.t.length y.tc] 83) = w2 at *
  rw [← hO] at *
  clear hO hk0 hk1
  refine (HNU.out w2 HFR.out.bel).mono ?_
  rintro e w3 ⟨rfl, hb⟩
  replace HFR := Lib.hid (HFR.out.below hb)
  clear hb HNU
  by_cases hne : ne = 0
  · subst hne
    obtain ⟨q0, q1, q2, q3, q4, q, q5, q6, q7, q8⟩ := HTB.out rfl
    obtain ⟨k, rfl⟩ : ∃ k : Nat, p = (k : Int) := ⟨p.toNat, by omega⟩
    rw [Int.toNat_natCast] at q2
    have Q2 := Lib.hid q2
    have Q3 := Lib.hid q3
    subst q6
    have HQ : Hid (q < x.o.length) := q5
    have HRF : Hid (0 ≤ (x.o.getD q Dn.zero).rf ∧ (x.o.getD q Dn.zero).rf ≤ 128) := ⟨q7, q8⟩
    rw [if_neg (by simp)] at HOE
    clear q2 q3 q5 q7 q8
    have hyt : y.t.length = x.t.length := by have := congrArg (fun d => d.t.length) HPL.out; simpa [Dv.pl] using this
    have hyo : y.o = x.o := congrArg De.o HPL.out
    have HPT : Hid (y.t.map Tb.l = x.pl.t) := congrArg De.t HPL.out
    have hyT : (y.t.getD k Tb.nil).l = T := by rw [← map_getD y.t k (by omega), HPT.out, Q2.out]; exact map_getD x.t k (by omega)
    have HYT := Lib.hid hyt
    have HYO := Lib.hid hyo
    have HYTT := Lib.hid hyT
    have hkt : k < y.t.length := by omega
    have q1y : (k : Int) < (y.t.length : Int) := by omega
    clear hyt hyo hyT
    obtain ⟨g, g2, a1, a2, a3, a4, a5, a6, a7, _, _, _, _, _⟩ := HFR.out.wk.own.tabAt k hkt (by rw [HYTT.out, Q3.out]; omega)
    have hrow := HFR.out.wk.own.in.tab k hkt
    rw [HYTT.out] at hrow a5 a6
    have hix := index_any _ _ _ w3 hrow (by have := Q3.out; omega)
    rw [a4] at hix
    generalize (y.t.getD k Tb.nil).c = cT at hix a5 a6 a7
    have HIX := Lib.hid hix
    obtain ⟨x0, x1, x2, x3, x4⟩ := HFR.out.wk.box.cc
    clear hix hrow a4
    rw [a1] at x1
    go_wp2_with fail
    refine HIX.out.mono ?_
    rintro e w6 ⟨rfl, hb⟩
    replace HFR := Lib.hid (HFR.out.below hb)
    clear hb HIX x0 x1 x2 x3 x4 a1 a2 a3 a5 a6 a7
    rcases fst_cases zeroB T 0 with ⟨hf, _⟩ | ⟨j, hf, hj, _, _⟩
    · rw [hf] at HOE HOF HOD ⊢
      have HOE2 : Hid (oe = 3) := by have := HOE.out; rw [if_pos (by decide)] at this; exact this
      have HOF2 : Hid (of = 0) := by have := HOF.out; rw [if_neg (by rw [HOE2.out]; decide)] at this; exact this
      have HOD2 : Hid (od = x.pl) := by have := HOD.out; rw [if_neg (by rw [HOE2.out]; decide)] at this; exact this
      obtain ⟨hA5, hD5, hB5⟩ := HFR.out.fin
      have e0 := hA5.cell 0 _ rfl
      have e1 := hA5.cell 1 _ rfl
      have hpo := HP.out y _ (by rw [HOD2.out]; exact HPL.out) hD5 hB5
      rw [HOE2.out, HOF2.out] at hpo
      have HPo := Lib.hid hpo
      obtain ⟨r0, r1, r2, r3, r4⟩ := HFR.out.r.two
      obtain ⟨x0, x1, x2, x3, x4⟩ := HFR.out.wk.box.cc
      clear hA5 hD5 hB5 hpo
      go_wp2_with fail
      generalize ((w6.setCell ⟨w.heap.size + 1, 0, none⟩ (.slice y.oa y.o.length y.oc)).setCell ⟨w.heap.size + 1, 1, none⟩ (.slice y.ta y.t.length y.tc)) = w9 at *
      exact bodyPost_ret (v := .tuple #[.agg #[.slice y.oa y.o.length y.oc, .slice y.ta y.t.length y.tc], .int .i64 0, .int .i64 3]) (by simp [results, Tryz.results113, go_sem, e0, e1]) rfl HPo.out
    · rw [hf] at HOE HOF HOD ⊢
      have HOE2 : Hid (oe = 0) := by have := HOE.out; rw [if_neg (by omega)] at this; exact this
      have HOF2 : Hid (of = j) := by have := HOF.out; rw [if_pos HOE2.out] at this; exact this
      have hod2 := HOD.out
      rw [if_pos HOE2.out, Int.toNat_natCast, Int.toNat_natCast, Int.toNat_natCast] at hod2
      have HOD2 := Lib.hid hod2
      have hj16 : (j : Int) < 16 := by have := Q3.out; omega
      clear HOE HOF HOD hod2
      have hyT := HYTT.out
      have q3 := Q3.out
      obtain ⟨g4, g5, c1, c2, c3, c4, c5, c6, c7, c8, c9, c10, c11, c12⟩ := HFR.out.wk.own.tabAt k hkt (by rw [hyT, q3]; omega)
      rw [hyT] at c5 c6 c8
      have c8j := c8 j (by omega)
      generalize hcT : (y.t.getD k Tb.nil).c = cT2 at c5 c6 c7
      generalize T.getD j 0 = zj at c8j
      clear hcT
      have c9j := c9 j
      have hqy : q < y.o.length := by rw [HYO.out]; exact HQ.out
      obtain ⟨g3, b1, b2, b3, b4, b5, b6, b7⟩ := HFR.out.wk.own.descAt q hqy
      have hrf0 : 0 ≤ (y.o.getD q Dn.zero).rf ∧ (y.o.getD q Dn.zero).rf ≤ 128 := by rw [HYO.out]; exact HRF.out
      have k4 := b4.c4
      have hbu : Hid (bumpL y.o q 1 = y.o.set q (bump (y.o.getD q Dn.zero) ((y.o.getD q Dn.zero).rf + 1))) := rfl
      have HF8 := Lib.hid (HFR.out.turn ((Below.refl (w.heap.size + 2) w6).setCell (p := ⟨g5, j, none⟩) c10 (.int .i64 ((q : Int) + 1))) (HFR.out.wk.putT k hkt c4 j ((q : Int) + 1)))
      have HF9 := Lib.hid (HF8.out.turn ((Below.refl (w.heap.size + 2) _).setCell (p := ⟨g3, q * 5 + 4, none⟩) b6 (.int .i64 ((y.o.getD q Dn.zero).rf + 1))) (HF8.out.wk.putC b1 q hqy 4 (by omega) (.int .i64 ((y.o.getD q Dn.zero).rf + 1)) (bump (y.o.getD q Dn.zero) ((y.o.getD q Dn.zero).rf + 1)) rfl))
      have nT := HFR.out.wk.neT k hkt c4
      have nO := HFR.out.wk.neO b1
      have nRT : w.heap.size + 1 ≠ g5 := by omega
      have nRO : w.heap.size + 1 ≠ g3 := by omega
      have nTO : g3 ≠ g5 := by
        have h1 := HFR.out.wk.own.o
        have h2 := HFR.out.wk.own.e _ (List.getElem_mem hkt)
        rw [b1] at h1
        have c4' := c4
        rw [getD_get hkt] at c4'
        unfold Tb.val at h2
        rw [c4'] at h2
        exact own_ne h1 h2 (by decide)
      have nOB : g4 ≠ g3 := by
        have h1 := HFR.out.wk.own.t
        have h2 := HFR.out.wk.own.o
        rw [c1] at h1
        rw [b1] at h2
        exact own_ne h1 h2 (by decide)
      have nOC : g4 ≠ g5 := fun e => c12 e.symm
      obtain ⟨hA5, hD5, hB5⟩ := HF9.out.fin
      have hOA : y.oa = some ⟨g3, 0, none⟩ := b1
      simp only [tset_len, List.length_set, c1, hOA] at hA5 hD5 hB5
      have e0 := hA5.cell 0 _ rfl
      have e1 := hA5.cell 1 _ rfl
      have hpo := HP.out _ _ (by rw [HOD2.out]; exact De.ext' (by rw [← HYO.out]; rfl) (by show (tset y.t k j _).map Tb.l = _; rw [tset_pl, HPT.out])) hD5 hB5
      rw [HOE2.out, HOF2.out] at hpo
      simp only [tset_len, List.length_set] at hpo
      have HPo := Lib.hid hpo
      obtain ⟨r0, r1, r2, r3, r4⟩ := HFR.out.r.two
      obtain ⟨x0, x1, x2, x3, x4⟩ := HFR.out.wk.box.cc
      simp only [c1, hOA] at x0 x1
      have hNb : (q : Int) ≤ 20000 := by have := HQ.out; omega
      have hqI : (q : Int) < (y.o.length : Int) := by omega
      have b5q := b5 (q * 5 + 4)
      clear hA5 hD5 hB5 hpo HFR c8 c9 hyT q3 c4 c1 hOA b1 b4 b5 HF8 HF9 hbu
      obtain ⟨hrf0, hrf1⟩ := hrf0
      generalize (y.o.getD q Dn.zero).rf = rf at *
      go_wp2_with fail
      generalize (((w6.setCell ⟨g5, j, none⟩ (.int .i64 ((q : Int) + 1))).setCell ⟨g3, q * 5 + 4, none⟩ (.int .i64 (rf + 1))).setCell ⟨w.heap.size + 1, 0, none⟩ (.slice (some ⟨g3, 0, none⟩) y.o.length y.oc)).setCell ⟨w.heap.size + 1, 1, none⟩ (.slice (some ⟨g4, 0, none⟩) y.t.length y.tc) = w9 at *
      exact bodyPost_ret (v := .tuple #[.agg #[.slice (some ⟨g3, 0, none⟩) y.o.length y.oc, .slice (some ⟨g4, 0, none⟩) y.t.length y.tc], .int .i64 j, .int .i64 0]) (by simp [results, Tryz.results113, go_sem, e0, e1]) rfl HPo.out
  · have HOE2 : Hid (oe = ne) := by have := HOE.out; rw [if_pos hne] at this; exact this
    have HOF2 : Hid (of = 0) := by have := HOF.out; rw [if_neg (by rw [HOE2.out]; exact hne)] at this; exact this
    have HOD2 : Hid (od = x.pl) := by have := HOD.out; rw [if_neg (by rw [HOE2.out]; exact hne)] at this; exact this
    obtain ⟨hA5, hD5, hB5⟩ := HFR.out.fin
    have e0 := hA5.cell 0 _ rfl
    have e1 := hA5.cell 1 _ rfl
    have hpo := HP.out y _ (by rw [HOD2.out]; exact HPL.out) hD5 hB5
    rw [HOE2.out, HOF2.out] at hpo
    have HPo := Lib.hid hpo
    obtain ⟨r0, r1, r2, r3, r4⟩ := HFR.out.r.two
    obtain ⟨x0, x1, x2, x3, x4⟩ := HFR.out.wk.box.cc
    clear hA5 hD5 hB5 hpo
    go_wp2_with fail
    generalize ((w3.setCell ⟨w.heap.size + 1, 0, none⟩ (.slice y.oa y.o.length y.oc)).setCell ⟨w.heap.size + 1, 1, none⟩ (.slice y.ta y.t.length y.tc)) = w9 at *
    exact bodyPost_ret (v := .tuple #[.agg #[.slice y.oa y.o.length y.oc, .slice y.ta y.t.length y.tc], .int .i64 0, .int .i64 ne]) (by simp [results, Tryz.results113, go_sem, e0, e1]) rfl HPo.out
end Go.Proofs.YtimhaidiclbnhaaGreat.Des
