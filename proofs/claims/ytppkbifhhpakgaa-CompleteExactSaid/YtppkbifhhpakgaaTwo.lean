/- Layer 35: two parents are made in one region. -/
import Derived.Test.YtppkbifhhpakgaaWAnswers
import Derived.Test.YtppkbifhhpakgaaCalm
namespace Go.Proofs.Ytppkbifhhpakgaa
open Go.ChangeShapes Go.WideShapes Go.ChangeAt Go.RowKit

/-- what holds while the two parents are made: which operations have come up, what they have left -/
structure TwoInv (w : World) (b7 : Nat) (R Q : List Value) (v6 : Value) (xs : List Prt) (base : Nat) (l0 l1 l2 l3 l4 l5 l6 l7 : Bool) (vp vq x0 x1 x2 x3 : Value) (wz : World) : Prop where
  bel : Below w.heap.size w wz
  req : At wz b7 R
  rlo : b7 < base
  own : wz.ownsRow (w.heap.size + 1) 39 4 v6 xs.length (flat xs)
  olo : ∀ k, v6.ownBlock = some k → k < base
  lo : w.heap.size ≤ base
  hi : base ≤ wz.heap.size
  h0 : l0 = true → x0 = .agg R.toArray
  h1 : l1 = true → x1 = .agg Q.toArray
  h2 : l2 = true → x2 = .agg R.toArray
  h3 : l3 = true → x3 = .agg Q.toArray
  h4 : l4 = true → ∃ b cs, vp = .pointer (some ⟨b, 0, none⟩) ∧ base ≤ b ∧ cs.length = 16 ∧ At wz b cs ∧ (l6 = true → cs = Q)
  h5 : l5 = true → ∃ b cs, vq = .pointer (some ⟨b, 0, none⟩) ∧ base ≤ b ∧ cs.length = 16 ∧ At wz b cs ∧ (l7 = true → cs = Q)
  ne : l4 = true → l5 = true → vp ≠ vq
  c6 : l6 = true → l4 = true
  c7 : l7 = true → l5 = true
theorem TwoInv.drew {w : World} {b7 : Nat} {R Q : List Value} {v6 : Value} {xs : List Prt} {base : Nat} {l0 l1 l2 l3 l4 l5 l6 l7 : Bool} {vp vq x0 x1 x2 x3 : Value} {wz wy : World}
    (h : TwoInv w b7 R Q v6 xs base l0 l1 l2 l3 l4 l5 l6 l7 vp vq x0 x1 x2 x3 wz) (hb : Below wz.heap.size wz wy) : TwoInv w b7 R Q v6 xs base l0 l1 l2 l3 l4 l5 l6 l7 vp vq x0 x1 x2 x3 wy :=
  ⟨h.bel.trans (hb.mono h.bel.size), h.req.below hb h.req.hi, h.rlo, own_below h.own hb (Nat.le_refl _), h.olo, h.lo, Nat.le_trans h.hi hb.size, h.h0, h.h1, h.h2, h.h3,
   fun e => by obtain ⟨b, cs, h1, h2, h3, h4, h5⟩ := h.h4 e; exact ⟨b, cs, h1, h2, h3, h4.below hb h4.hi, h5⟩,
   fun e => by obtain ⟨b, cs, h1, h2, h3, h4, h5⟩ := h.h5 e; exact ⟨b, cs, h1, h2, h3, h4.below hb h4.hi, h5⟩, h.ne, h.c6, h.c7⟩
section
variable {w : World} {b7 : Nat} {R Q : List Value} {v6 : Value} {xs : List Prt} {base : Nat} {l0 l1 l2 l3 l4 l5 l6 l7 : Bool} {vp vq x0 x1 x2 x3 : Value} {wz : World}
theorem TwoInv.s0 (h : TwoInv w b7 R Q v6 xs base l0 l1 l2 l3 l4 l5 l6 l7 vp vq x0 x1 x2 x3 wz) : TwoInv w b7 R Q v6 xs base true l1 l2 l3 l4 l5 l6 l7 vp vq (.agg R.toArray) x1 x2 x3 wz := { h with h0 := fun _ => rfl }
theorem TwoInv.s2 (h : TwoInv w b7 R Q v6 xs base l0 l1 l2 l3 l4 l5 l6 l7 vp vq x0 x1 x2 x3 wz) : TwoInv w b7 R Q v6 xs base l0 l1 true l3 l4 l5 l6 l7 vp vq x0 x1 (.agg R.toArray) x3 wz := { h with h2 := fun _ => rfl }
theorem TwoInv.s1 (h : TwoInv w b7 R Q v6 xs base l0 l1 l2 l3 l4 l5 l6 l7 vp vq x0 x1 x2 x3 wz) : TwoInv w b7 R Q v6 xs base l0 true l2 l3 l4 l5 l6 l7 vp vq x0 (.agg Q.toArray) x2 x3 wz := { h with h1 := fun _ => rfl }
theorem TwoInv.s3 (h : TwoInv w b7 R Q v6 xs base l0 l1 l2 l3 l4 l5 l6 l7 vp vq x0 x1 x2 x3 wz) : TwoInv w b7 R Q v6 xs base l0 l1 l2 true l4 l5 l6 l7 vp vq x0 x1 x2 (.agg Q.toArray) wz := { h with h3 := fun _ => rfl }
theorem TwoInv.s4 (h : TwoInv w b7 R Q v6 xs base l0 l1 l2 l3 l4 l5 l6 l7 vp vq x0 x1 x2 x3 wz) (hl : l4 = false) : TwoInv w b7 R Q v6 xs base l0 l1 l2 l3 true l5 l6 l7 (.pointer (some ⟨wz.heap.size, 0, none⟩)) vq x0 x1 x2 x3 (wz.alloc (.cells ZV.toArray 26)) := by
  have h' := h.drew ((Below.refl _ _).alloc (Nat.le_refl _) (.cells ZV.toArray 26))
  have h6 : l6 = false := by
    cases e : l6 with
    | false => rfl
    | true => have := h.c6 e; rw [hl] at this; cases this
  refine { h' with h4 := fun _ => ⟨_, ZV, rfl, h.hi, rfl, At.new _ _ _, fun e => by rw [h6] at e; cases e⟩, ne := fun _ e => ?_, c6 := fun _ => rfl }
  obtain ⟨b, cs, rfl, _, _, hA, _⟩ := h.h5 e
  intro e2
  have := hA.hi
  simp at e2
theorem TwoInv.s5 (h : TwoInv w b7 R Q v6 xs base l0 l1 l2 l3 l4 l5 l6 l7 vp vq x0 x1 x2 x3 wz) (hl : l5 = false) : TwoInv w b7 R Q v6 xs base l0 l1 l2 l3 l4 true l6 l7 vp (.pointer (some ⟨wz.heap.size, 0, none⟩)) x0 x1 x2 x3 (wz.alloc (.cells ZV.toArray 26)) := by
  have h' := h.drew ((Below.refl _ _).alloc (Nat.le_refl _) (.cells ZV.toArray 26))
  have h7 : l7 = false := by
    cases e : l7 with
    | false => rfl
    | true => have := h.c7 e; rw [hl] at this; cases this
  refine { h' with h5 := fun _ => ⟨_, ZV, rfl, h.hi, rfl, At.new _ _ _, fun e => by rw [h7] at e; cases e⟩, ne := fun e _ => ?_, c7 := fun _ => rfl }
  obtain ⟨b, cs, rfl, _, _, hA, _⟩ := h.h4 e
  intro e2
  have := hA.hi
  simp at e2
theorem TwoInv.s6 {b : Nat} (h : TwoInv w b7 R Q v6 xs base l0 l1 l2 l3 true true l6 l7 (.pointer (some ⟨b, 0, none⟩)) vq x0 x1 x2 x3 wz) (hQ : Q.length = 16) : TwoInv w b7 R Q v6 xs base l0 l1 l2 l3 true true true l7 (.pointer (some ⟨b, 0, none⟩)) vq x0 x1 x2 x3 (wz.setCells b 0 Q) := by
  obtain ⟨b', cs, e, hb, hl, hA, _⟩ := h.h4 rfl
  simp at e; subst e
  have hB : Below base wz (wz.setCells b 0 Q) := below_cells hb _ _ (Below.refl _ _)
  refine ⟨h.bel.trans (hB.mono h.lo), h.req.below hB h.rlo, h.rlo, own_lt h.own hB h.olo, h.olo, h.lo, Nat.le_trans h.hi hB.size, h.h0, h.h1, h.h2, h.h3, fun _ => ⟨b, Q, rfl, hb, hQ, hA.store Q (by omega), fun _ => rfl⟩, fun e => ?_, h.ne, fun _ => rfl, h.c7⟩
  obtain ⟨b2, cs2, rfl, hb2, hl2, hA2, h7⟩ := h.h5 e
  exact ⟨b2, cs2, rfl, hb2, hl2, hA2.apart (fun e => h.ne rfl rfl (by rw [e])) _ _, h7⟩
theorem TwoInv.s7 {b : Nat} (h : TwoInv w b7 R Q v6 xs base l0 l1 l2 l3 true true l6 l7 vp (.pointer (some ⟨b, 0, none⟩)) x0 x1 x2 x3 wz) (hQ : Q.length = 16) : TwoInv w b7 R Q v6 xs base l0 l1 l2 l3 true true l6 true vp (.pointer (some ⟨b, 0, none⟩)) x0 x1 x2 x3 (wz.setCells b 0 Q) := by
  obtain ⟨b', cs, e, hb, hl, hA, _⟩ := h.h5 rfl
  simp at e; subst e
  have hB : Below base wz (wz.setCells b 0 Q) := below_cells hb _ _ (Below.refl _ _)
  refine ⟨h.bel.trans (hB.mono h.lo), h.req.below hB h.rlo, h.rlo, own_lt h.own hB h.olo, h.olo, h.lo, Nat.le_trans h.hi hB.size, h.h0, h.h1, h.h2, h.h3, fun e => ?_, fun _ => ⟨b, Q, rfl, hb, hQ, hA.store Q (by omega), fun _ => rfl⟩, h.ne, h.c6, fun _ => rfl⟩
  obtain ⟨b2, cs2, rfl, hb2, hl2, hA2, h7⟩ := h.h4 e
  exact ⟨b2, cs2, rfl, hb2, hl2, hA2.apart (fun e => h.ne rfl rfl (by rw [e])) _ _, h7⟩
end

theorem wpOp_at {P : Program} {ops : Array Oper} {Q : Exit → Act → World → Prop} {i : Nat} {o : Oper} {K : Act → World → Prop} {a : Act} {w : World} (hi : ops[i]? = some o) (hg : o.guard = none) (h : o.wp P a w K Q) : wpOp P ops Q i K a w := by
  unfold wpOp; simp only [hi, Region.wanted, hg]; exact Or.inl h
theorem wp_load_rv {op : Oper} {a : Act} {w : World} {K : Act → World → Prop} {Q : Exit → Act → World → Prop} {x : Operand} {b : Nat} {id k c : Int}
    (h : At w b (RV id k c)) (ho : op.op = .load 23 x) (hx : a.eval x = .pointer (some ⟨b, 0, none⟩)) (hn : K (a.put op.dst (.agg (RV id k c).toArray)) w) : op.wp Try.prog a w K Q :=
  wp_load_mid 23 x ho b 0 hx _ _ h.r Try.underlying23 rfl size23 hn
theorem wp_store_pv {op : Oper} {a : Act} {w : World} {K : Act → World → Prop} {Q : Exit → Act → World → Prop} {x y : Operand} {b : Nat} {cs : List Value} {id k c lf er ea : Int} {P : ByteArray}
    (h : At w b cs) (hl : cs.length = 16) (ho : op.op = .store 26 x y) (hx : a.eval x = .pointer (some ⟨b, 0, none⟩)) (hy : a.eval y = .agg (PV id k c lf er ea P).toArray)
    (hn : K (a.put op.dst undef) (w.setCells b 0 (PV id k c lf er ea P))) : op.wp Try.prog a w K Q :=
  wp_store_mid 26 x y ho b 0 _ hx hy (by rw [show (PV id k c lf er ea P).toArray.size = cs.length from hl.symm]; exact h.t) size26 (PV_one ..) hn
theorem eval_get {a : Act} {t : Nat} {v : Value} (h : a.eval (.tmp t) = v) : a.tmps[t]?.getD undef = v := by
  rw [← h]; simp [Act.eval]
theorem region_sweep2 {P : Program} {ops : Array Oper} {Q : Exit → Act → World → Prop} {id : Nat} {A : Act} {W : World} (Facts : Act → Prop) (J : Act → Array Bool → Act → World → Prop) (hm : P.follows .mixedOrders = true) (hA : Facts A)
    (h0 : J A (Array.replicate ops.size false) A W.drew)
    (step : ∀ A, Facts A → ∀ Q : Exit → Act → World → Prop, ∀ l a w i, J A l a w → i ∈ Region.ready .any ops l → ∀ K : Act → World → Prop, (∀ a' w', J A (l.setIfInBounds i true) a' w' → K a' w') → wpOp P ops Q i K a w)
    (fin : ∀ l a w, J A l a w → Region.ready .any ops l = [] → Q .normal a w) : (Code.region id ops true).wp P Q A W :=
  region_sweep J hm h0 (step A hA Q) fin
def put5 (A : Act) (vp vq x0 x1 x2 x3 : Value) : Act := ⟨((((((A.tmps.setIfInBounds 9 vp).setIfInBounds 10 vq).setIfInBounds 21 x0).setIfInBounds 22 x1).setIfInBounds 23 x2).setIfInBounds 24 x3), A.defers⟩
theorem put5_old (A : Act) (vp vq x0 x1 x2 x3 : Value) (t : Nat) (h : ([9, 10, 21, 22, 23, 24] : List Nat).contains t = false) : (put5 A vp vq x0 x1 x2 x3).eval (.tmp t) = A.eval (.tmp t) := by
  simp at h
  obtain ⟨h1, h2, h3, h4, h5, h6⟩ := h
  simp [put5, Act.eval, Array.getElem?_setIfInBounds, Ne.symm h1, Ne.symm h2, Ne.symm h3, Ne.symm h4, Ne.symm h5, Ne.symm h6]
theorem put5_at0 (A : Act) (vp vq x0 x1 x2 x3 : Value) (h : 120 ≥ A.tmps.size ∧ 80 < A.tmps.size) : (put5 A vp vq x0 x1 x2 x3).eval (.tmp 9) = vp := by
  have h1 : 9 < A.tmps.size := by omega
  simp [put5, Act.eval, Array.getElem?_setIfInBounds, h1]
theorem put5_put0 (A : Act) (vp vq x0 x1 x2 x3 u : Value) : (put5 A vp vq x0 x1 x2 x3).put (some 9) u = put5 A u vq x0 x1 x2 x3 := by
  simp only [put5, Act.put, Act.mk.injEq, and_true]
  refine Array.ext_getElem? (fun i => ?_)
  simp only [Array.getElem?_setIfInBounds, Array.size_setIfInBounds]
  repeat' split
  all_goals first | rfl | omega
theorem put5_at1 (A : Act) (vp vq x0 x1 x2 x3 : Value) (h : 120 ≥ A.tmps.size ∧ 80 < A.tmps.size) : (put5 A vp vq x0 x1 x2 x3).eval (.tmp 10) = vq := by
  have h1 : 10 < A.tmps.size := by omega
  simp [put5, Act.eval, Array.getElem?_setIfInBounds, h1]
theorem put5_put1 (A : Act) (vp vq x0 x1 x2 x3 u : Value) : (put5 A vp vq x0 x1 x2 x3).put (some 10) u = put5 A vp u x0 x1 x2 x3 := by
  simp only [put5, Act.put, Act.mk.injEq, and_true]
  refine Array.ext_getElem? (fun i => ?_)
  simp only [Array.getElem?_setIfInBounds, Array.size_setIfInBounds]
  repeat' split
  all_goals first | rfl | omega
theorem put5_at2 (A : Act) (vp vq x0 x1 x2 x3 : Value) (h : 120 ≥ A.tmps.size ∧ 80 < A.tmps.size) : (put5 A vp vq x0 x1 x2 x3).eval (.tmp 21) = x0 := by
  have h1 : 21 < A.tmps.size := by omega
  simp [put5, Act.eval, Array.getElem?_setIfInBounds, h1]
theorem put5_put2 (A : Act) (vp vq x0 x1 x2 x3 u : Value) : (put5 A vp vq x0 x1 x2 x3).put (some 21) u = put5 A vp vq u x1 x2 x3 := by
  simp only [put5, Act.put, Act.mk.injEq, and_true]
  refine Array.ext_getElem? (fun i => ?_)
  simp only [Array.getElem?_setIfInBounds, Array.size_setIfInBounds]
  repeat' split
  all_goals first | rfl | omega
theorem put5_at3 (A : Act) (vp vq x0 x1 x2 x3 : Value) (h : 120 ≥ A.tmps.size ∧ 80 < A.tmps.size) : (put5 A vp vq x0 x1 x2 x3).eval (.tmp 22) = x1 := by
  have h1 : 22 < A.tmps.size := by omega
  simp [put5, Act.eval, Array.getElem?_setIfInBounds, h1]
theorem put5_put3 (A : Act) (vp vq x0 x1 x2 x3 u : Value) : (put5 A vp vq x0 x1 x2 x3).put (some 22) u = put5 A vp vq x0 u x2 x3 := by
  simp only [put5, Act.put, Act.mk.injEq, and_true]
  refine Array.ext_getElem? (fun i => ?_)
  simp only [Array.getElem?_setIfInBounds, Array.size_setIfInBounds]
  repeat' split
  all_goals first | rfl | omega
theorem put5_at4 (A : Act) (vp vq x0 x1 x2 x3 : Value) (h : 120 ≥ A.tmps.size ∧ 80 < A.tmps.size) : (put5 A vp vq x0 x1 x2 x3).eval (.tmp 23) = x2 := by
  have h1 : 23 < A.tmps.size := by omega
  simp [put5, Act.eval, Array.getElem?_setIfInBounds, h1]
theorem put5_put4 (A : Act) (vp vq x0 x1 x2 x3 u : Value) : (put5 A vp vq x0 x1 x2 x3).put (some 23) u = put5 A vp vq x0 x1 u x3 := by
  simp only [put5, Act.put, Act.mk.injEq, and_true]
  refine Array.ext_getElem? (fun i => ?_)
  simp only [Array.getElem?_setIfInBounds, Array.size_setIfInBounds]
  repeat' split
  all_goals first | rfl | omega
theorem put5_at5 (A : Act) (vp vq x0 x1 x2 x3 : Value) (h : 120 ≥ A.tmps.size ∧ 80 < A.tmps.size) : (put5 A vp vq x0 x1 x2 x3).eval (.tmp 24) = x3 := by
  have h1 : 24 < A.tmps.size := by omega
  simp [put5, Act.eval, Array.getElem?_setIfInBounds, h1]
theorem put5_put5 (A : Act) (vp vq x0 x1 x2 x3 u : Value) : (put5 A vp vq x0 x1 x2 x3).put (some 24) u = put5 A vp vq x0 x1 x2 u := by
  simp only [put5, Act.put, Act.mk.injEq, and_true]
  refine Array.ext_getElem? (fun i => ?_)
  simp only [Array.getElem?_setIfInBounds, Array.size_setIfInBounds]
  repeat' split
  all_goals first | rfl | omega
def put4 (A : Act) (vp vq x0 x1 x2 x3 : Value) : Act := ⟨((((((A.tmps.setIfInBounds 8 vp).setIfInBounds 9 vq).setIfInBounds 19 x0).setIfInBounds 20 x1).setIfInBounds 21 x2).setIfInBounds 22 x3), A.defers⟩
theorem put4_old (A : Act) (vp vq x0 x1 x2 x3 : Value) (t : Nat) (h : ([8, 9, 19, 20, 21, 22] : List Nat).contains t = false) : (put4 A vp vq x0 x1 x2 x3).eval (.tmp t) = A.eval (.tmp t) := by
  simp at h
  obtain ⟨h1, h2, h3, h4, h5, h6⟩ := h
  simp [put4, Act.eval, Array.getElem?_setIfInBounds, Ne.symm h1, Ne.symm h2, Ne.symm h3, Ne.symm h4, Ne.symm h5, Ne.symm h6]
theorem put4_at0 (A : Act) (vp vq x0 x1 x2 x3 : Value) (h : 120 ≥ A.tmps.size ∧ 80 < A.tmps.size) : (put4 A vp vq x0 x1 x2 x3).eval (.tmp 8) = vp := by
  have h1 : 8 < A.tmps.size := by omega
  simp [put4, Act.eval, Array.getElem?_setIfInBounds, h1]
theorem put4_put0 (A : Act) (vp vq x0 x1 x2 x3 u : Value) : (put4 A vp vq x0 x1 x2 x3).put (some 8) u = put4 A u vq x0 x1 x2 x3 := by
  simp only [put4, Act.put, Act.mk.injEq, and_true]
  refine Array.ext_getElem? (fun i => ?_)
  simp only [Array.getElem?_setIfInBounds, Array.size_setIfInBounds]
  repeat' split
  all_goals first | rfl | omega
theorem put4_at1 (A : Act) (vp vq x0 x1 x2 x3 : Value) (h : 120 ≥ A.tmps.size ∧ 80 < A.tmps.size) : (put4 A vp vq x0 x1 x2 x3).eval (.tmp 9) = vq := by
  have h1 : 9 < A.tmps.size := by omega
  simp [put4, Act.eval, Array.getElem?_setIfInBounds, h1]
theorem put4_put1 (A : Act) (vp vq x0 x1 x2 x3 u : Value) : (put4 A vp vq x0 x1 x2 x3).put (some 9) u = put4 A vp u x0 x1 x2 x3 := by
  simp only [put4, Act.put, Act.mk.injEq, and_true]
  refine Array.ext_getElem? (fun i => ?_)
  simp only [Array.getElem?_setIfInBounds, Array.size_setIfInBounds]
  repeat' split
  all_goals first | rfl | omega
theorem put4_at2 (A : Act) (vp vq x0 x1 x2 x3 : Value) (h : 120 ≥ A.tmps.size ∧ 80 < A.tmps.size) : (put4 A vp vq x0 x1 x2 x3).eval (.tmp 19) = x0 := by
  have h1 : 19 < A.tmps.size := by omega
  simp [put4, Act.eval, Array.getElem?_setIfInBounds, h1]
theorem put4_put2 (A : Act) (vp vq x0 x1 x2 x3 u : Value) : (put4 A vp vq x0 x1 x2 x3).put (some 19) u = put4 A vp vq u x1 x2 x3 := by
  simp only [put4, Act.put, Act.mk.injEq, and_true]
  refine Array.ext_getElem? (fun i => ?_)
  simp only [Array.getElem?_setIfInBounds, Array.size_setIfInBounds]
  repeat' split
  all_goals first | rfl | omega
theorem put4_at3 (A : Act) (vp vq x0 x1 x2 x3 : Value) (h : 120 ≥ A.tmps.size ∧ 80 < A.tmps.size) : (put4 A vp vq x0 x1 x2 x3).eval (.tmp 20) = x1 := by
  have h1 : 20 < A.tmps.size := by omega
  simp [put4, Act.eval, Array.getElem?_setIfInBounds, h1]
theorem put4_put3 (A : Act) (vp vq x0 x1 x2 x3 u : Value) : (put4 A vp vq x0 x1 x2 x3).put (some 20) u = put4 A vp vq x0 u x2 x3 := by
  simp only [put4, Act.put, Act.mk.injEq, and_true]
  refine Array.ext_getElem? (fun i => ?_)
  simp only [Array.getElem?_setIfInBounds, Array.size_setIfInBounds]
  repeat' split
  all_goals first | rfl | omega
theorem put4_at4 (A : Act) (vp vq x0 x1 x2 x3 : Value) (h : 120 ≥ A.tmps.size ∧ 80 < A.tmps.size) : (put4 A vp vq x0 x1 x2 x3).eval (.tmp 21) = x2 := by
  have h1 : 21 < A.tmps.size := by omega
  simp [put4, Act.eval, Array.getElem?_setIfInBounds, h1]
theorem put4_put4 (A : Act) (vp vq x0 x1 x2 x3 u : Value) : (put4 A vp vq x0 x1 x2 x3).put (some 21) u = put4 A vp vq x0 x1 u x3 := by
  simp only [put4, Act.put, Act.mk.injEq, and_true]
  refine Array.ext_getElem? (fun i => ?_)
  simp only [Array.getElem?_setIfInBounds, Array.size_setIfInBounds]
  repeat' split
  all_goals first | rfl | omega
theorem put4_at5 (A : Act) (vp vq x0 x1 x2 x3 : Value) (h : 120 ≥ A.tmps.size ∧ 80 < A.tmps.size) : (put4 A vp vq x0 x1 x2 x3).eval (.tmp 22) = x3 := by
  have h1 : 22 < A.tmps.size := by omega
  simp [put4, Act.eval, Array.getElem?_setIfInBounds, h1]
theorem put4_put5 (A : Act) (vp vq x0 x1 x2 x3 u : Value) : (put4 A vp vq x0 x1 x2 x3).put (some 22) u = put4 A vp vq x0 x1 x2 u := by
  simp only [put4, Act.put, Act.mk.injEq, and_true]
  refine Array.ext_getElem? (fun i => ?_)
  simp only [Array.getElem?_setIfInBounds, Array.size_setIfInBounds]
  repeat' split
  all_goals first | rfl | omega
end Go.Proofs.Ytppkbifhhpakgaa
