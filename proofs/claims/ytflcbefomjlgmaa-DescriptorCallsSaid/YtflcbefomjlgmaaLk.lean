/- Lookup. -/
import Derived.Test.YtflcbefomjlgmaaNu
import Derived.Test.YtflcbefomjlgmaaCr
set_option linter.unusedSimpArgs false
set_option linter.unusedVariables false
namespace Go.Proofs.Ytflcbefomjlgmaa
open Go.ChangeShapes Go.WideShapes Go.ChangeAt Go.RowKit

theorem num_ok {d : De} {p f : Int} (h : numE d p f = 0) : checkV d = true ∧ 0 ≤ p ∧ p < (d.t.length : Int) ∧ 0 ≤ f ∧ f < 16 ∧ ∃ q : Nat, q < d.o.length ∧ numV d p f = (q : Int) ∧ entAt d p f = (q : Int) + 1 := by
  have hp : procV d p = 0 := by
    unfold numE at h
    by_cases hp : procV d p = 0
    · exact hp
    · rw [if_pos hp] at h; exact h
  have h2 : ¬ (f < 0 ∨ 16 ≤ f ∨ entAt d p f = 0) := fun hh => by
    unfold numE at h
    rw [if_neg (by omega), if_pos hh] at h; cases h
  obtain ⟨c1, c2, c3⟩ := procV_ok hp
  have h3 := (check_tab c1 p.toNat (by omega)).2 f.toNat (by omega)
  have h4 : entAt d p f = (d.t.getD p.toNat []).getD f.toNat 0 := rfl
  rw [← h4] at h3
  refine ⟨c1, c2, c3, by omega, by omega, (entAt d p f - 1).toNat, by omega, ?_, by omega⟩
  unfold numV
  rw [if_pos h]
  omega
def lookV (d : De) (p f : Int) : Dn := if numE d p f = 0 then d.o.getD (numV d p f).toNat Dn.zero else Dn.zero
def lookR (d : De) (p f : Int) : Value := .tuple #[.int .i64 (numV d p f), dnVal (lookV d p f), .int .i64 (numE d p f)]
theorem At.drew {W : World} {b : Nat} {cs : List Value} (h : At W b cs) : At W.drew b cs := ⟨h.r, h.t, h.hi⟩
def Z5 : List Value := [.int .i64 0, .int .i64 0, .int .i64 0, .int .i64 0, .int .i64 0]
theorem At.five {W : World} {b : Nat} {a0 a1 a2 a3 a4 : Value} (h : At W b [a0, a1, a2, a3, a4]) : (W.cell? ⟨b, 0, none⟩ = some a0 ∧ W.cell? ⟨b, 1, none⟩ = some a1 ∧ W.cell? ⟨b, 2, none⟩ = some a2 ∧ W.cell? ⟨b, 3, none⟩ = some a3 ∧ W.cell? ⟨b, 4, none⟩ = some a4) ∧ (W.frozen? ⟨b, 0, none⟩ = false ∧ W.frozen? ⟨b, 1, none⟩ = false ∧ W.frozen? ⟨b, 2, none⟩ = false ∧ W.frozen? ⟨b, 3, none⟩ = false ∧ W.frozen? ⟨b, 4, none⟩ = false) ∧ b < W.heap.size :=
  ⟨⟨h.cell 0 _ rfl, h.cell 1 _ rfl, h.cell 2 _ rfl, h.cell 3 _ rfl, h.cell 4 _ rfl⟩, ⟨h.free 0 (by simp), h.free 1 (by simp), h.free 2 (by simp), h.free 3 (by simp), h.free 4 (by simp)⟩, h.hi⟩

set_option maxHeartbeats 4000000 in
theorem lookup_any (x : Dv) (p f : Int) (w : World) (h : DIn w x) (hz : DSz x) :
    Calls Try.prog 19 #[dVal x, .int .i64 p, .int .i64 f] w (RetW (lookR x.pl p f) w) := by
  have HC := Lib.hid (fun W hb => number_any x p f W (h.below hb) hz)
  have HD := Lib.hid h.descs
  have HOK : Hid (numE x.pl p f = 0 → ∃ q : Nat, q < x.o.length ∧ numV x.pl p f = (q : Int)) := fun hh => by
    obtain ⟨_, _, _, _, _, q, h1, h2, _⟩ := num_ok hh
    exact ⟨q, h1, h2⟩
  have HL : Hid (lookR x.pl p f = .tuple #[.int .i64 (numV x.pl p f), dnVal (if numE x.pl p f = 0 then x.o.getD (numV x.pl p f).toNat Dn.zero else Dn.zero), .int .i64 (numE x.pl p f)]) := rfl
  have hol := hz.o
  have HNZ : Hid (numE x.pl p f ≠ 0 → numV x.pl p f = 0) := fun hh => by unfold numV; rw [if_neg hh]
  clear h hz
  generalize lookR x.pl p f = LR at *
  generalize numE x.pl p f = ne at *
  generalize numV x.pl p f = nv at *
  unfold dVal at HC ⊢
  obtain ⟨oa, oc, o, ta, tc, t⟩ := x
  simp only at HC HD HOK HL hol
  obtain ⟨W0, hW0⟩ : ∃ W0, W0 = (w.alloc (Obj.cells #[.slice oa o.length oc, .slice ta t.length tc] 29)).alloc (Obj.cells Z5.toArray 34) := ⟨_, rfl⟩
  have hb0 : Below w.heap.size w W0 := by rw [hW0]; exact ((Below.refl _ w).alloc (Nat.le_refl _) _).alloc (by simp) _
  have hs0 : W0.heap.size = w.heap.size + 2 := by rw [hW0]; simp
  have hB0 : At W0 (w.heap.size + 1) Z5 := by rw [hW0]; exact (At.new (w.alloc (Obj.cells #[.slice oa o.length oc, .slice ta t.length tc] 29)) Z5 34).cast (by simp)
  have hp0 : W0.cell? ⟨w.heap.size, 0, none⟩ = some (.slice oa o.length oc) := by rw [hW0]; simp
  have hp1 : W0.cell? ⟨w.heap.size, 1, none⟩ = some (.slice ta t.length tc) := by rw [hW0]; simp
  have HB0 := Lib.hid hb0
  have HS0 := Lib.hid hs0
  have HA0 := Lib.hid hB0
  clear hb0 hs0 hB0
  simp only [Z5] at hW0
  go_enter Try.func19, Try.ntmps19
  go_wp2_with fail
  rw [← hW0]
  refine (HC.out W0 HB0.out).mono ?_
  rintro e w2 ⟨rfl, hb⟩
  have hk0 : w2.cell? ⟨w.heap.size, 0, none⟩ = some (.slice oa o.length oc) := (hb.cell (p := ⟨w.heap.size, 0, none⟩) (by rw [HS0.out]; simp)).trans hp0
  have HA := HA0.out.below hb HA0.out.hi
  have HB : Hid (Below w.heap.size w w2) := HB0.out.trans (hb.mono (by rw [HS0.out]; omega))
  clear hp0 hp1 hW0 hb HA0 HC
  unfold Z5 at HA
  have HAA := Lib.hid HA
  obtain ⟨⟨c0, c1, c2, c3, c4⟩, ⟨y0, y1, y2, y3, y4⟩, hlt⟩ := HA.five
  clear HA
  by_cases hne : ne = 0
  · subst hne
    obtain ⟨q, hq, rfl⟩ := HOK.out rfl
    obtain ⟨g, of, rfl, hca, hcb, hcel⟩ := HD.out w2 HB.out q hq
    rw [if_pos rfl, Int.toNat_natCast] at HL
    have hq' : (q : Int) < (o.length : Int) := by omega
    generalize o.getD q Dn.zero = a at *
    obtain ⟨fi, fl, ff, cu, rf⟩ := a
    obtain ⟨k0, k1, k2, k3, k4⟩ := hcel
    simp only at k0 k1 k2 k3 k4
    have hw5 := HAA.out.store [.int .i64 fi, .int .i64 fl, .int .i64 ff, .int .i64 cu, .int .i64 rf] rfl
    have hb5 : Below w.heap.size w (w2.setCells (w.heap.size + 1) 0 [.int .i64 fi, .int .i64 fl, .int .i64 ff, .int .i64 cu, .int .i64 rf]) := below_cells (by omega) _ _ HB.out
    simp only [World.setCells] at hw5 hb5
    have hw6 := hw5.drew
    have hb6 := hb5.drew
    clear hw5 hb5
    go_wp2_with fail
    go_region
    generalize (((((w2.setCell { block := w.heap.size + 1, off := 0 } (Value.int IntKind.i64 fi)).setCell { block := w.heap.size + 1, off := 1 } (Value.int IntKind.i64 fl)).setCell { block := w.heap.size + 1, off := 2 } (Value.int IntKind.i64 ff)).setCell { block := w.heap.size + 1, off := 3 } (Value.int IntKind.i64 cu)).setCell { block := w.heap.size + 1, off := 4 } (Value.int IntKind.i64 rf)).drew = w5 at *
    obtain ⟨⟨d0, d1, d2, d3, d4⟩, _, _⟩ := hw6.five
    go_wp2_with fail
    refine bodyPost_ret (v := .tuple #[.int .i64 q, .agg #[.int .i64 fi, .int .i64 fl, .int .i64 ff, .int .i64 cu, .int .i64 rf], .int .i64 0]) (by simp [results, Try.results19, go_sem, d0, d1, d2, d3, d4]) rfl ?_
    exact ⟨by rw [HL.out]; rfl, hb6⟩
  · have HL2 := HL.out
    rw [if_neg hne, HNZ.out hne] at HL2
    replace HL2 := Lib.hid HL2
    have hw5 := HAA.out.store [.int .i64 0, .int .i64 0, .int .i64 0, .int .i64 0, .int .i64 0] rfl
    have hb5 : Below w.heap.size w (w2.setCells (w.heap.size + 1) 0 [.int .i64 0, .int .i64 0, .int .i64 0, .int .i64 0, .int .i64 0]) := below_cells (by omega) _ _ HB.out
    simp only [World.setCells] at hw5 hb5
    go_wp2_with fail
    generalize ((((w2.setCell { block := w.heap.size + 1, off := 0 } (Value.int IntKind.i64 0)).setCell { block := w.heap.size + 1, off := 1 } (Value.int IntKind.i64 0)).setCell { block := w.heap.size + 1, off := 2 } (Value.int IntKind.i64 0)).setCell { block := w.heap.size + 1, off := 3 } (Value.int IntKind.i64 0)).setCell { block := w.heap.size + 1, off := 4 } (Value.int IntKind.i64 0) = w5 at *
    have d5 := hw5.five
    obtain ⟨⟨d0, d1, d2, d3, d4⟩, _, _⟩ := d5
    refine bodyPost_ret (v := .tuple #[.int .i64 0, .agg #[.int .i64 0, .int .i64 0, .int .i64 0, .int .i64 0, .int .i64 0], .int .i64 ne]) (by simp [results, Try.results19, go_sem, d0, d1, d2, d3, d4]) rfl ?_
    exact ⟨by rw [HL2.out]; rfl, hb5⟩
set_option maxHeartbeats 4000000 in
theorem lookupR_any (x : Dv) (p f : Int) (w : World) (h : DIn w x) (hz : DSz x) :
    Calls Try.prog 20 #[dVal x, .int .i64 p, .int .i64 f] w (RetW (lookR x.pl p f) w) := by
  have HC := Lib.hid (fun W hb => checkR_any' x W (h.below hb) hz.o hz.t)
  have HD := Lib.hid h.descs
  have HR := Lib.hid h.rows
  have HL : Hid (lookR x.pl p f = .tuple #[.int .i64 (numV x.pl p f), dnVal (if numE x.pl p f = 0 then x.o.getD (numV x.pl p f).toNat Dn.zero else Dn.zero), .int .i64 (numE x.pl p f)]) := rfl
  have hol := hz.o
  have HNZ : Hid (numE x.pl p f ≠ 0 → numV x.pl p f = 0) := fun hh => by unfold numV; rw [if_neg hh]
  have HP : Hid (procV x.pl p = if checkV x.pl = false then 1 else if p < 0 ∨ (x.t.length : Int) ≤ p then 2 else 0) := by unfold procV; rw [pl_t]; rfl
  have HOK : Hid (procV x.pl p = 0 → 0 ≤ p ∧ p < (x.t.length : Int) ∧ (tabAt x.pl p).length = 16 ∧ tabAt x.pl p = (x.t.getD p.toNat Tb.nil).l ∧ ∀ j, j < 16 → 0 ≤ (tabAt x.pl p).getD j 0 ∧ (tabAt x.pl p).getD j 0 ≤ x.o.length) := fun hp => by
    obtain ⟨h1, h2, h3⟩ := procV_ok hp
    rw [pl_t] at h3
    have h4 := check_tab h1 p.toNat (by rw [pl_t]; omega)
    exact ⟨h2, h3, h4.1, map_getD x.t p.toNat (by omega), h4.2⟩
  have HE : Hid (numE x.pl p f = if procV x.pl p ≠ 0 then procV x.pl p else if f < 0 ∨ 16 ≤ f ∨ (tabAt x.pl p).getD f.toNat 0 = 0 then 4 else 0) := rfl
  have HN : Hid (numV x.pl p f = if numE x.pl p f = 0 then (tabAt x.pl p).getD f.toNat 0 - 1 else 0) := rfl
  clear h hz
  generalize lookR x.pl p f = LR at *
  generalize procV x.pl p = pv at *
  generalize checkV x.pl = cv at *
  generalize numE x.pl p f = ne at *
  generalize numV x.pl p f = nv at *
  generalize tabAt x.pl p = T at *
  unfold dVal at HC ⊢
  obtain ⟨oa, oc, o, ta, tc, t⟩ := x
  simp only at HC HD HR HOK HL hol HP
  obtain ⟨W0, hW0⟩ : ∃ W0, W0 = (w.alloc (Obj.cells #[.slice oa o.length oc, .slice ta t.length tc] 29)).alloc (Obj.cells Z5.toArray 34) := ⟨_, rfl⟩
  have hb0 : Below w.heap.size w W0 := by rw [hW0]; exact ((Below.refl _ w).alloc (Nat.le_refl _) _).alloc (by simp) _
  have hs0 : W0.heap.size = w.heap.size + 2 := by rw [hW0]; simp
  have hB0 : At W0 (w.heap.size + 1) Z5 := by rw [hW0]; exact (At.new (w.alloc (Obj.cells #[.slice oa o.length oc, .slice ta t.length tc] 29)) Z5 34).cast (by simp)
  have hp0 : W0.cell? ⟨w.heap.size, 0, none⟩ = some (.slice oa o.length oc) := by rw [hW0]; simp
  have hp1 : W0.cell? ⟨w.heap.size, 1, none⟩ = some (.slice ta t.length tc) := by rw [hW0]; simp
  have HB0 := Lib.hid hb0
  have HS0 := Lib.hid hs0
  have HA0 := Lib.hid hB0
  clear hb0 hs0 hB0
  simp only [Z5] at hW0
  go_enter Try.func20, Try.ntmps20
  go_wp2_with fail
  rw [← hW0]
  refine (HC.out W0 HB0.out).mono ?_
  rintro e w2 ⟨rfl, hb⟩
  have hk0 : w2.cell? ⟨w.heap.size, 0, none⟩ = some (.slice oa o.length oc) := (hb.cell (p := ⟨w.heap.size, 0, none⟩) (by rw [HS0.out]; simp)).trans hp0
  have hk1 : w2.cell? ⟨w.heap.size, 1, none⟩ = some (.slice ta t.length tc) := (hb.cell (p := ⟨w.heap.size, 1, none⟩) (by rw [HS0.out]; simp)).trans hp1
  have HA := HA0.out.below hb HA0.out.hi
  have HB : Hid (Below w.heap.size w w2) := HB0.out.trans (hb.mono (by rw [HS0.out]; omega))
  clear hp0 hp1 hW0 hb HA0 HC
  unfold Z5 at HA
  have HAA := Lib.hid HA
  obtain ⟨⟨c0, c1, c2, c3, c4⟩, ⟨y0, y1, y2, y3, y4⟩, hlt⟩ := HA.five
  clear HA
  cases cv with
  | false =>
    have hpv : pv = 1 := HP.out
    have HE2 : Hid (ne = 1) := by have := HE.out; rw [if_pos (by rw [hpv]; decide), hpv] at this; exact this
    have HL2 : Hid (LR = .tuple #[.int .i64 0, dnVal Dn.zero, .int .i64 1]) := by have := HL.out; rw [HNZ.out (by rw [HE2.out]; decide), HE2.out] at this; exact this
    have HNEG : Hid ((0 : Int) ≤ 0) := Int.le_refl _
    clear hpv
    have hw5 := HAA.out.store [.int .i64 0, .int .i64 0, .int .i64 0, .int .i64 0, .int .i64 0] rfl
    have hb5 : Below w.heap.size w (w2.setCells (w.heap.size + 1) 0 [.int .i64 0, .int .i64 0, .int .i64 0, .int .i64 0, .int .i64 0]) := below_cells (by omega) _ _ HB.out
    simp only [World.setCells] at hw5 hb5
    go_wp2_with fail
    all_goals first | (exfalso; have := HNEG.out; omega) | (generalize ((((w2.setCell { block := w.heap.size + 1, off := 0 } (Value.int IntKind.i64 0)).setCell { block := w.heap.size + 1, off := 1 } (Value.int IntKind.i64 0)).setCell { block := w.heap.size + 1, off := 2 } (Value.int IntKind.i64 0)).setCell { block := w.heap.size + 1, off := 3 } (Value.int IntKind.i64 0)).setCell { block := w.heap.size + 1, off := 4 } (Value.int IntKind.i64 0) = w5 at *; obtain ⟨⟨d0, d1, d2, d3, d4⟩, _, _⟩ := hw5.five; refine bodyPost_ret (v := .tuple #[.int .i64 0, .agg #[.int .i64 0, .int .i64 0, .int .i64 0, .int .i64 0, .int .i64 0], .int .i64 1]) (by simp [results, Try.results20, go_sem, d0, d1, d2, d3, d4]) rfl ?_; exact ⟨by rw [HL2.out]; rfl, hb5⟩)
  | true =>
    by_cases hp : p < 0 ∨ (t.length : Int) ≤ p
    · have hpv : pv = 2 := by have := HP.out; rw [if_neg (by simp), if_pos hp] at this; exact this
      have HE2 : Hid (ne = 2) := by have := HE.out; rw [if_pos (by rw [hpv]; decide), hpv] at this; exact this
      have HL2 : Hid (LR = .tuple #[.int .i64 0, dnVal Dn.zero, .int .i64 2]) := by have := HL.out; rw [HNZ.out (by rw [HE2.out]; decide), HE2.out] at this; exact this
      have HNEG := Lib.hid hp
      clear hpv hp
      have hw5 := HAA.out.store [.int .i64 0, .int .i64 0, .int .i64 0, .int .i64 0, .int .i64 0] rfl
      have hb5 : Below w.heap.size w (w2.setCells (w.heap.size + 1) 0 [.int .i64 0, .int .i64 0, .int .i64 0, .int .i64 0, .int .i64 0]) := below_cells (by omega) _ _ HB.out
      simp only [World.setCells] at hw5 hb5
      go_wp2_with fail
      all_goals first | (exfalso; have := HNEG.out; omega) | (generalize ((((w2.setCell { block := w.heap.size + 1, off := 0 } (Value.int IntKind.i64 0)).setCell { block := w.heap.size + 1, off := 1 } (Value.int IntKind.i64 0)).setCell { block := w.heap.size + 1, off := 2 } (Value.int IntKind.i64 0)).setCell { block := w.heap.size + 1, off := 3 } (Value.int IntKind.i64 0)).setCell { block := w.heap.size + 1, off := 4 } (Value.int IntKind.i64 0) = w5 at *; obtain ⟨⟨d0, d1, d2, d3, d4⟩, _, _⟩ := hw5.five; refine bodyPost_ret (v := .tuple #[.int .i64 0, .agg #[.int .i64 0, .int .i64 0, .int .i64 0, .int .i64 0, .int .i64 0], .int .i64 2]) (by simp [results, Try.results20, go_sem, d0, d1, d2, d3, d4]) rfl ?_; exact ⟨by rw [HL2.out]; rfl, hb5⟩)
    · have hpv : pv = 0 := by have := HP.out; rw [if_neg (by simp), if_neg hp] at this; exact this
      subst hpv
      obtain ⟨q0, q1, q2, q3, q4⟩ := HOK.out rfl
      obtain ⟨k, rfl⟩ : ∃ k : Nat, p = (k : Int) := ⟨p.toNat, by omega⟩
      rw [Int.toNat_natCast] at q3
      obtain ⟨g, of, rfl, e1, e2, e3, e4⟩ := HR.out w2 HB.out k (by omega)
      rw [if_neg (by simp)] at HE
      have Q2 := Lib.hid q2
      have Q4 := Lib.hid q4
      clear HR HOK q2 q4 hp HP
      subst q3
      generalize t.getD k Tb.nil = y at *
      obtain ⟨ya, yc, yl⟩ := y
      simp only at HE HN Q2 Q4 e3 e4
      have hyl : (yl.length : Int) = 16 := by rw [Q2.out]; rfl
      by_cases hf : f < 0 ∨ 16 ≤ f
      · have HE2 : Hid (ne = 4) := by have := HE.out; rw [if_pos (by omega)] at this; exact this
        have HL2 : Hid (LR = .tuple #[.int .i64 0, dnVal Dn.zero, .int .i64 4]) := by have := HL.out; rw [HNZ.out (by rw [HE2.out]; decide), HE2.out] at this; exact this
        have HNEG := Lib.hid hf
        clear hf e4
        have hw5 := HAA.out.store [.int .i64 0, .int .i64 0, .int .i64 0, .int .i64 0, .int .i64 0] rfl
        have hb5 : Below w.heap.size w (w2.setCells (w.heap.size + 1) 0 [.int .i64 0, .int .i64 0, .int .i64 0, .int .i64 0, .int .i64 0]) := below_cells (by omega) _ _ HB.out
        simp only [World.setCells] at hw5 hb5
        go_wp2_with fail
        all_goals first | (exfalso; have := HNEG.out; omega) | (generalize ((((w2.setCell { block := w.heap.size + 1, off := 0 } (Value.int IntKind.i64 0)).setCell { block := w.heap.size + 1, off := 1 } (Value.int IntKind.i64 0)).setCell { block := w.heap.size + 1, off := 2 } (Value.int IntKind.i64 0)).setCell { block := w.heap.size + 1, off := 3 } (Value.int IntKind.i64 0)).setCell { block := w.heap.size + 1, off := 4 } (Value.int IntKind.i64 0) = w5 at *; obtain ⟨⟨d0, d1, d2, d3, d4⟩, _, _⟩ := hw5.five; refine bodyPost_ret (v := .tuple #[.int .i64 0, .agg #[.int .i64 0, .int .i64 0, .int .i64 0, .int .i64 0, .int .i64 0], .int .i64 4]) (by simp [results, Try.results20, go_sem, d0, d1, d2, d3, d4]) rfl ?_; exact ⟨by rw [HL2.out]; rfl, hb5⟩)
      · obtain ⟨j, rfl⟩ : ∃ j : Nat, f = (j : Int) := ⟨f.toNat, by omega⟩
        rw [Int.toNat_natCast] at HE HN
        obtain ⟨g', of', rfl, b1, b2, b3⟩ := e4 j (by omega)
        obtain ⟨z0, z1⟩ := Q4.out j (by omega)
        have hj1 : (j : Int) < 16 := by omega
        clear e4 hf
        generalize yl.getD j 0 = z at *
        by_cases hzz : z = 0
        · subst hzz
          have HE2 : Hid (ne = 4) := by have := HE.out; rw [if_pos (by omega)] at this; exact this
          have HL2 : Hid (LR = .tuple #[.int .i64 0, dnVal Dn.zero, .int .i64 4]) := by have := HL.out; rw [HNZ.out (by rw [HE2.out]; decide), HE2.out] at this; exact this
          have HNEG : Hid ((0 : Int) ≤ 0) := Int.le_refl _
          have hw5 := HAA.out.store [.int .i64 0, .int .i64 0, .int .i64 0, .int .i64 0, .int .i64 0] rfl
          have hb5 : Below w.heap.size w (w2.setCells (w.heap.size + 1) 0 [.int .i64 0, .int .i64 0, .int .i64 0, .int .i64 0, .int .i64 0]) := below_cells (by omega) _ _ HB.out
          simp only [World.setCells] at hw5 hb5
          go_wp2_with fail
          all_goals first | (exfalso; have := HNEG.out; omega) | (generalize ((((w2.setCell { block := w.heap.size + 1, off := 0 } (Value.int IntKind.i64 0)).setCell { block := w.heap.size + 1, off := 1 } (Value.int IntKind.i64 0)).setCell { block := w.heap.size + 1, off := 2 } (Value.int IntKind.i64 0)).setCell { block := w.heap.size + 1, off := 3 } (Value.int IntKind.i64 0)).setCell { block := w.heap.size + 1, off := 4 } (Value.int IntKind.i64 0) = w5 at *; obtain ⟨⟨d0, d1, d2, d3, d4⟩, _, _⟩ := hw5.five; refine bodyPost_ret (v := .tuple #[.int .i64 0, .agg #[.int .i64 0, .int .i64 0, .int .i64 0, .int .i64 0, .int .i64 0], .int .i64 4]) (by simp [results, Try.results20, go_sem, d0, d1, d2, d3, d4]) rfl ?_; exact ⟨by rw [HL2.out]; rfl, hb5⟩)
        · have HE2 : Hid (ne = 0) := by have := HE.out; rw [if_neg (by omega)] at this; exact this
          obtain ⟨q, rfl⟩ : ∃ q : Nat, z = (q : Int) + 1 := ⟨(z - 1).toNat, by omega⟩
          have HN2 : Hid (nv = q) := by have := HN.out; rw [if_pos HE2.out] at this; rw [Hid, this]; omega
          have hzb : (((q : Int) + 1) == 0) = false := by simpa using hzz
          have hwq : IntKind.i64.wrap ((q : Int) + 1 - 1) = (q : Int) := by
            rw [show (q : Int) + 1 - 1 = q from by omega]
            exact IntWalk.i64_in _ (by omega)
          obtain ⟨g3, o3, rfl, hca, hcb, hcel⟩ := HD.out w2 HB.out q (by omega)
          have HL2 := HL.out
          rw [HE2.out, HN2.out, if_pos rfl, Int.toNat_natCast] at HL2
          replace HL2 := Lib.hid HL2
          have hq' : (q : Int) < (o.length : Int) := by omega
          generalize o.getD q Dn.zero = a at *
          obtain ⟨fi, fl, ff, cu, rf⟩ := a
          obtain ⟨k0, k1, k2, k3, k4⟩ := hcel
          simp only at k0 k1 k2 k3 k4
          clear hzz HL
          have hw5 := HAA.out.store [.int .i64 fi, .int .i64 fl, .int .i64 ff, .int .i64 cu, .int .i64 rf] rfl
          have hb5 : Below w.heap.size w (w2.setCells (w.heap.size + 1) 0 [.int .i64 fi, .int .i64 fl, .int .i64 ff, .int .i64 cu, .int .i64 rf]) := below_cells (by omega) _ _ HB.out
          simp only [World.setCells] at hw5 hb5
          have hw6 := hw5.drew
          have hb6 := hb5.drew
          clear hw5 hb5
          go_wp2_with fail
          go_region
          generalize (((((w2.setCell { block := w.heap.size + 1, off := 0 } (Value.int IntKind.i64 fi)).setCell { block := w.heap.size + 1, off := 1 } (Value.int IntKind.i64 fl)).setCell { block := w.heap.size + 1, off := 2 } (Value.int IntKind.i64 ff)).setCell { block := w.heap.size + 1, off := 3 } (Value.int IntKind.i64 cu)).setCell { block := w.heap.size + 1, off := 4 } (Value.int IntKind.i64 rf)).drew = w5 at *
          obtain ⟨⟨d0, d1, d2, d3, d4⟩, _, _⟩ := hw6.five
          go_wp2_with fail
          refine bodyPost_ret (v := .tuple #[.int .i64 q, .agg #[.int .i64 fi, .int .i64 fl, .int .i64 ff, .int .i64 cu, .int .i64 rf], .int .i64 0]) (by simp [results, Try.results20, go_sem, d0, d1, d2, d3, d4]) rfl ?_
          exact ⟨by rw [HL2.out]; rfl, hb6⟩
end Go.Proofs.Ytflcbefomjlgmaa
