/- The frame of the calls that make descriptors: the parameter, the answer's variable, the copy. -/
import Derived.Test.YtflcbefomjlgmaaNw
set_option linter.unusedSimpArgs false
set_option linter.unusedVariables false
namespace Go.Proofs.Ytflcbefomjlgmaa
open Go.ChangeShapes Go.WideShapes Go.ChangeAt Go.RowKit

/-- x came in (its variable is the first new block), R is the answer's variable, O has the copy y -/
structure Fr (w : World) (x : Dv) (W : World) (B R O : Nat) (y : Dv) : Prop where
  wk : Wk B W O y
  p0 : W.cell? ⟨w.heap.size, 0, none⟩ = some (.slice x.oa x.o.length x.oc)
  p1 : W.cell? ⟨w.heap.size, 1, none⟩ = some (.slice x.ta x.t.length x.tc)
  r : At W R [.slice none 0 0, .slice none 0 0]
  bel : Below w.heap.size w W
  hR : R < B
  hP : w.heap.size < R
theorem Fr.below {w W W' : World} {x y : Dv} {B R O : Nat} (h : Fr w x W B R O y) (hb : Below W.heap.size W W') : Fr w x W' B R O y :=
  ⟨h.wk.below hb, (hb.cell (p := ⟨w.heap.size, 0, none⟩) (World.block_lt_of_cell? _ _ h.p0)).trans h.p0, (hb.cell (p := ⟨w.heap.size, 1, none⟩) (World.block_lt_of_cell? _ _ h.p1)).trans h.p1, h.r.below hb h.r.hi, h.bel.trans (hb.mono h.bel.size), h.hR, h.hP⟩
/-- what turns blocks from B on only -/
theorem Fr.turn {w W W' : World} {x y y' : Dv} {B R O : Nat} (h : Fr w x W B R O y) (hb : Below B W W') (hk : Wk B W' O y') : Fr w x W' B R O y' :=
  ⟨hk, (hb.cell (p := ⟨w.heap.size, 0, none⟩) (Nat.lt_trans h.hP h.hR)).trans h.p0, (hb.cell (p := ⟨w.heap.size, 1, none⟩) (Nat.lt_trans h.hP h.hR)).trans h.p1, h.r.below hb h.hR, h.bel.trans (hb.mono (Nat.le_of_lt (Nat.lt_trans h.hP h.hR))), h.hR, h.hP⟩
theorem Fr.start {w W0 w1 : World} {x y : Dv} {B R : Nat} (h0 : W0.cell? ⟨w.heap.size, 0, none⟩ = some (.slice x.oa x.o.length x.oc)) (h1 : W0.cell? ⟨w.heap.size, 1, none⟩ = some (.slice x.ta x.t.length x.tc)) (hr : At W0 R [.slice none 0 0, .slice none 0 0])
    (hb0 : Below w.heap.size w W0) (hRB : R < B) (hPR : w.heap.size < R) (hB : B ≤ W0.heap.size) (hc : DOwn W0.heap.size w1 y) (hb : Below W0.heap.size W0 w1) :
    Fr w x (w1.alloc (Obj.cells #[.slice y.oa y.o.length y.oc, .slice y.ta y.t.length y.tc] 29)) B R w1.heap.size y := by
  have hb2 := hb.trans ((Below.refl w1.heap.size w1).alloc (Nat.le_refl _) (Obj.cells #[.slice y.oa y.o.length y.oc, .slice y.ta y.t.length y.tc] 29) |>.mono hb.size)
  refine ⟨⟨(hc.mono hB).below ((Below.refl w1.heap.size w1).alloc (Nat.le_refl _) _), Bx.new w1 y, Nat.le_trans hB hb.size⟩, ?_, ?_, hr.below hb2 hr.hi, hb0.trans (hb2.mono hb0.size), hRB, hPR⟩
  · exact (hb2.cell (p := ⟨w.heap.size, 0, none⟩) (World.block_lt_of_cell? _ _ h0)).trans h0
  · exact (hb2.cell (p := ⟨w.heap.size, 1, none⟩) (World.block_lt_of_cell? _ _ h1)).trans h1
/-- the answer is stored -/
theorem ret_ab {W : World} {R : Nat} {u0 u1 : Value} (h : At W R [u0, u1]) (a b : Value) : At ((W.setCell ⟨R, 0, none⟩ a).setCell ⟨R, 1, none⟩ b) R [a, b] := (h.set 0 a).set 1 b
theorem DOwn.far {B R : Nat} {W : World} {x : Dv} (h : DOwn B W x) (hR : R < B) (o : Nat) (v : Value) : DOwn B (W.setCell ⟨R, o, none⟩ v) x :=
  ⟨own_apart h.o _ _ (fun q hq => by have := (h.o.lt q hq).1; show q ≠ R; omega), own_apart h.t _ _ (fun q hq => by have := (h.t.lt q hq).1; show q ≠ R; omega), fun y hy => own_apart (h.e y hy) _ _ (fun q hq => by have := ((h.e y hy).lt q hq).1; show q ≠ R; omega), h.d⟩
theorem Fr.fin {w W : World} {x y : Dv} {B R O : Nat} (h : Fr w x W B R O y) :
    At ((W.setCell ⟨R, 0, none⟩ (.slice y.oa y.o.length y.oc)).setCell ⟨R, 1, none⟩ (.slice y.ta y.t.length y.tc)) R [.slice y.oa y.o.length y.oc, .slice y.ta y.t.length y.tc] ∧ DAns w x ((W.setCell ⟨R, 0, none⟩ (.slice y.oa y.o.length y.oc)).setCell ⟨R, 1, none⟩ (.slice y.ta y.t.length y.tc)) y ∧ Below w.heap.size w ((W.setCell ⟨R, 0, none⟩ (.slice y.oa y.o.length y.oc)).setCell ⟨R, 1, none⟩ (.slice y.ta y.t.length y.tc)) :=
  ⟨ret_ab h.r _ _, ((h.wk.own.far h.hR _ _).far h.hR _ _).ans (Nat.le_of_lt (Nat.lt_trans h.hP h.hR)), (h.bel.setCell (p := ⟨R, 0, none⟩) (Nat.le_of_lt h.hP) _).setCell (p := ⟨R, 1, none⟩) (Nat.le_of_lt h.hP) _⟩
/-- what came in is answered -/
theorem ret_in {w W : World} {x : Dv} {R : Nat} (hx : DIn w x) (hr : At W R [.slice none 0 0, .slice none 0 0]) (hb : Below w.heap.size w W) (hP : w.heap.size < R) :
    At ((W.setCell ⟨R, 0, none⟩ (.slice x.oa x.o.length x.oc)).setCell ⟨R, 1, none⟩ (.slice x.ta x.t.length x.tc)) R [.slice x.oa x.o.length x.oc, .slice x.ta x.t.length x.tc] ∧ DAns w x ((W.setCell ⟨R, 0, none⟩ (.slice x.oa x.o.length x.oc)).setCell ⟨R, 1, none⟩ (.slice x.ta x.t.length x.tc)) x ∧ Below w.heap.size w ((W.setCell ⟨R, 0, none⟩ (.slice x.oa x.o.length x.oc)).setCell ⟨R, 1, none⟩ (.slice x.ta x.t.length x.tc)) := by
  have hb2 := (hb.setCell (p := ⟨R, 0, none⟩) (Nat.le_of_lt hP) (.slice x.oa x.o.length x.oc)).setCell (p := ⟨R, 1, none⟩) (Nat.le_of_lt hP) (.slice x.ta x.t.length x.tc)
  exact ⟨ret_ab hr _ _, ⟨hx.below hb2, fun b h => Or.inl h⟩, hb2⟩
/-- a table of one's own is read and written -/
theorem DOwn.tabAt {B : Nat} {W : World} {y : Dv} (h : DOwn B W y) (i : Nat) (hi : i < y.t.length) (h0 : 0 < (y.t.getD i Tb.nil).l.length) :
    ∃ g g2, y.ta = some ⟨g, 0, none⟩ ∧ (y.t.length : Int) ≤ y.tc ∧ (y.tc : Int) ≤ 9223372036854775807 ∧ (y.t.getD i Tb.nil).a = some ⟨g2, 0, none⟩ ∧ W.cell? ⟨g, i, none⟩ = some (.slice (some ⟨g2, 0, none⟩) (y.t.getD i Tb.nil).l.length (y.t.getD i Tb.nil).c) ∧ ((y.t.getD i Tb.nil).l.length : Int) ≤ (y.t.getD i Tb.nil).c ∧ ((y.t.getD i Tb.nil).c : Int) ≤ 9223372036854775807 ∧
      (∀ j, j < (y.t.getD i Tb.nil).l.length → W.cell? ⟨g2, j, none⟩ = some (.int .i64 ((y.t.getD i Tb.nil).l.getD j 0))) ∧ (∀ j, W.frozen? ⟨g2, j, none⟩ = false) ∧ B ≤ g2 ∧ g2 < W.heap.size ∧ g2 ≠ g := by
  obtain ⟨g, of, e1, e2, e3, e4, e5⟩ := h.in.row i hi
  have hz := own_zero h.t e1
  subst hz
  obtain ⟨g2, o2, f1, f2, f3, f4, _⟩ := h.in.num i hi 0 h0
  have hmem : y.t.getD i Tb.nil ∈ y.t := by rw [getD_get hi]; exact List.getElem_mem hi
  have hown := h.e _ hmem
  have hz2 := own_zero hown f1
  subst hz2
  have hown2 := hown
  unfold Tb.val at hown2
  rw [f1] at hown2
  have ho3 := h.t
  rw [e1] at ho3
  rw [f1, Nat.zero_add] at e5
  refine ⟨g, g2, e1, e3, e4, f1, e5, f3, f4, fun j hj => ?_, fun j => own_free hown2, (own_lt hown2).1, f2, ?_⟩
  · obtain ⟨g3, o3, k1, k2, k3, k4, k5⟩ := h.in.num i hi j hj
    have hz3 := own_zero hown k1
    subst hz3
    rw [f1] at k1
    cases k1
    rwa [Nat.zero_add] at k5
  · exact own_ne hown2 ho3 (by decide)
/-- a description of one's own is read and written -/
theorem DOwn.descAt {B : Nat} {W : World} {y : Dv} (h : DOwn B W y) (i : Nat) (hi : i < y.o.length) :
    ∃ g, y.oa = some ⟨g, 0, none⟩ ∧ (y.o.length : Int) ≤ y.oc ∧ (y.oc : Int) ≤ 9223372036854775807 ∧ DCel W g (i * 5) (y.o.getD i Dn.zero) ∧ (∀ j, W.frozen? ⟨g, j, none⟩ = false) ∧ B ≤ g ∧ g < W.heap.size := by
  obtain ⟨g, of, e1, e2, e3, e4, e5⟩ := h.in.desc i hi
  have hz := own_zero h.o e1
  subst hz
  have ho := h.o
  rw [e1] at ho
  refine ⟨g, e1, e3, e4, DCel.of (by rwa [Nat.zero_add] at e5), fun j => own_free ho, (own_lt ho).1, e2⟩
/-- sizes go by what descriptors are -/
structure ESz (d : De) : Prop where
  o : d.o.length ≤ 9000
  t : d.t.length ≤ 1000
  e : ∀ l ∈ d.t, l.length ≤ 10000
theorem ESz.sz {d : De} {x : Dv} (h : ESz d) (e : x.pl = d) : DSz x := by
  subst e
  exact ⟨Nat.le_trans h.o (by omega), by have := h.t; rwa [pl_t] at this, fun y hy => h.e _ (List.mem_map_of_mem hy)⟩
theorem check_sz {d : De} (h : checkV d = true) : ESz d := by
  have h1 := check_len h
  refine ⟨by omega, by omega, fun l hl => ?_⟩
  obtain ⟨i, hi, rfl⟩ := List.getElem_of_mem hl
  have := (check_tab h i hi).1
  rw [getD_get hi] at this
  omega
end Go.Proofs.Ytflcbefomjlgmaa
