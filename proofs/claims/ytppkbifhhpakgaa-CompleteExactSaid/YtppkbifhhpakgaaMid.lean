/- Layer 35: the cells of a block, as a list; loads and stores of whole structs. -/
import Derived.Test.YtppkbifhhpakgaaBase
import Derived.Deep.MidRow
import Derived.Deep.Cut
namespace Go.Proofs.Ytppkbifhhpakgaa
open Go.ChangeShapes Go.WideShapes Go.ChangeAt Go.RowKit

theorem at_old {w : World} {o : Obj} {b k : Nat} (h : b < w.heap.size) : (w.alloc o).cell? ⟨b, k, none⟩ = w.cell? ⟨b, k, none⟩ ∧ (w.alloc o).frozen? ⟨b, k, none⟩ = w.frozen? ⟨b, k, none⟩ :=
  ⟨((Below.refl w.heap.size w).alloc (Nat.le_refl _) o).cell (p := ⟨b, k, none⟩) h, ((Below.refl w.heap.size w).alloc (Nat.le_refl _) o).frozen (p := ⟨b, k, none⟩) h⟩
theorem at_new {w : World} {A : Array Value} {T : TypeId} {b : Nat} (hb : b = w.heap.size) (k : Nat) : (w.alloc (.cells A T)).cell? ⟨b, k, none⟩ = A[k]? ∧ (w.alloc (.cells A T)).frozen? ⟨b, k, none⟩ = false := by
  subst hb; exact ⟨World.cell?_alloc_new _ _ _ _, World.frozen?_alloc_new _ _ _ _⟩
theorem four (w : World) (A B C D : Array Value) (T1 T2 T3 T4 : TypeId) :
    ∀ W, W = (((w.alloc (.cells A T1)).alloc (.cells B T2)).alloc (.cells C T3)).alloc (.cells D T4) →
    Below w.heap.size w W ∧ W.heap.size = w.heap.size + 4 ∧ (∀ k, W.cell? ⟨w.heap.size + 1, k, none⟩ = B[k]?) ∧ (∀ k, W.frozen? ⟨w.heap.size + 1, k, none⟩ = false) ∧
    (∀ k, W.cell? ⟨w.heap.size + 1 + 1 + 1, k, none⟩ = D[k]?) ∧ (∀ k, W.frozen? ⟨w.heap.size + 1 + 1 + 1, k, none⟩ = false) := by
  rintro W rfl
  refine ⟨((((Below.refl _ _).alloc (Nat.le_refl _) _).alloc (by simp) _).alloc (by first | (simp; done) | (simp; omega)) _).alloc (by first | (simp; done) | (simp; omega)) _, by simp, ?_, ?_, ?_, ?_⟩
  · intro k
    rw [(at_old (by first | (simp; done) | (simp; omega))).1, (at_old (by first | (simp; done) | (simp; omega))).1]; exact (at_new (by simp) k).1
  · intro k
    rw [(at_old (by first | (simp; done) | (simp; omega))).2, (at_old (by first | (simp; done) | (simp; omega))).2]; exact (at_new (by simp) k).2
  · intro k; exact (at_new (by simp) k).1
  · intro k; exact (at_new (by simp) k).2
theorem range_of {w : World} {b : Nat} {A : List Value} (h : ∀ k, w.cell? ⟨b, k, none⟩ = A[k]?) : w.rangeAt b 0 A := by
  intro j v hv; rw [Nat.zero_add, h j]; exact hv
theorem there_of {w : World} {b n : Nat} {A : List Value} (h : ∀ k, w.cell? ⟨b, k, none⟩ = A[k]?) (hf : ∀ k, w.frozen? ⟨b, k, none⟩ = false) (hn : A.length = n) : w.there b 0 n := by
  intro j hj; rw [Nat.zero_add, h j, List.getElem?_eq_getElem (by omega)]; exact ⟨rfl, hf j⟩
theorem range_set {w : World} {b : Nat} {A : List Value} (h : w.rangeAt b 0 A) (i : Nat) (v : Value) : (w.setCell ⟨b, i, none⟩ v).rangeAt b 0 (A.set i v) := by
  intro j u hu
  rw [Nat.zero_add]
  by_cases hij : i = j
  · subst hij
    have hl : i < A.length := by
      have := (List.getElem?_eq_some_iff.1 hu).1; simpa using this
    rw [List.getElem?_set_self hl] at hu; cases hu
    have h1 := h i _ (List.getElem?_eq_getElem hl)
    rw [Nat.zero_add] at h1
    exact World.cell?_setCell_same _ _ _ h1
  · rw [List.getElem?_set_ne hij] at hu
    rw [World.cell?_setCell_other]
    · have := h j u hu; rwa [Nat.zero_add] at this
    · exact fun e => hij (Addr.mk.inj e).2.1
theorem there_set {w : World} {b n : Nat} (h : w.there b 0 n) (x : Addr) (v : Value) : (w.setCell x v).there b 0 n := by
  intro j hj
  refine ⟨?_, by rw [World.frozen?_setCell]; exact (h j hj).2⟩
  have h1 := (h j hj).1
  by_cases hx : x = ⟨b, 0 + j, none⟩
  · subst hx
    obtain ⟨u, hu⟩ := Option.isSome_iff_exists.1 h1
    rw [World.cell?_setCell_same _ _ _ hu]; rfl
  · rw [World.cell?_setCell_other _ _ _ _ hx]; exact h1
theorem below_cells {B b : Nat} {a : World} (hb : B ≤ b) : ∀ (vs : List Value) (o : Nat) {w : World}, Below B a w → Below B a (w.setCells b o vs)
  | [], _, _, h => h
  | v :: vs, o, _, h => below_cells hb vs (o + 1) (h.setCell (p := ⟨b, o, none⟩) hb v)
theorem results_cell (P : Program) (fn : Func) (tmps : Array Value) {t : Tmp} {ty : TypeId} (h : fn.results = #[.cell t ty]) (w : World) (b : Nat) (cs : List Value) (ht : tmps.getD t undef = .pointer (some ⟨b, 0, none⟩)) (d : TypeDesc) (hc : w.rangeAt b 0 cs)
    (hu : P.underlying ty = some d) (hd : d.isRow = true) (hi : (P.info? ty).map (·.size) = some cs.length) : (results fn tmps).run P w = .ok (.agg cs.toArray) w := by
  have := run_loadVar_mid (P := P) w b 0 ty cs d hc hu hd hi
  have ht2 : tmps[t]?.getD undef = .pointer (some ⟨b, 0, none⟩) := by rw [← ht]; simp
  simp [results, h, ht2, this, asAddr]
theorem under26 : ∃ d, Try.prog.underlying 26 = some d ∧ d.isRow = true := ⟨_, Try.underlying26, rfl⟩
theorem size26 : (Try.prog.info? 26).map (·.size) = some 16 := by kernel_rfl

/-- the cells cs lie in block b, and may be written -/
structure At (w : World) (b : Nat) (cs : List Value) : Prop where
  r : w.rangeAt b 0 cs
  t : w.there b 0 cs.length
  hi : b < w.heap.size
theorem At.below {w w' : World} {b B : Nat} {cs : List Value} (h : At w b cs) (hb : Below B w w') (hB : b < B) : At w' b cs :=
  ⟨fun j v hv => (hb.cell (p := ⟨b, 0 + j, none⟩) hB).trans (h.r j v hv),
   fun j hj => ⟨by rw [hb.cell (p := ⟨b, 0 + j, none⟩) hB]; exact (h.t j hj).1, by rw [hb.frozen (p := ⟨b, 0 + j, none⟩) hB]; exact (h.t j hj).2⟩, Nat.lt_of_lt_of_le h.hi hb.size⟩
theorem size_cells (b : Nat) : ∀ (vs : List Value) (o : Nat) (w : World), (w.setCells b o vs).heap.size = w.heap.size
  | [], _, _ => rfl
  | v :: vs, o, w => by
    show ((w.setCell ⟨b, o, none⟩ v).setCells b (o + 1) vs).heap.size = _
    rw [size_cells b vs (o + 1)]; simp [World.setCell]
theorem At.store {w : World} {b : Nat} {cs : List Value} (h : At w b cs) (vs : List Value) (hl : vs.length = cs.length) : At (w.setCells b 0 vs) b vs :=
  ⟨World.rangeAt_setCells_same _ _ _ _ (by rw [hl]; exact h.t), by rw [hl]; exact World.there_setCells h.t _ _ _, by rw [size_cells]; exact h.hi⟩
theorem At.apart {w : World} {b b' : Nat} {cs : List Value} (h : At w b cs) (hne : b ≠ b') (o : Nat) (vs : List Value) : At (w.setCells b' o vs) b cs :=
  ⟨World.rangeAt_setCells_apart h.r _ _ _ (Or.inl hne), World.there_setCells h.t _ _ _, by rw [size_cells]; exact h.hi⟩
theorem At.set {w : World} {b : Nat} {cs : List Value} (h : At w b cs) (i : Nat) (v : Value) : At (w.setCell ⟨b, i, none⟩ v) b (cs.set i v) :=
  ⟨range_set h.r i v, by rw [List.length_set]; exact there_set h.t _ _, by simpa [World.setCell] using h.hi⟩
theorem At.cell {w : World} {b : Nat} {cs : List Value} (h : At w b cs) (i : Nat) (v : Value) (hv : cs[i]? = some v) : w.cell? ⟨b, i, none⟩ = some v := by
  have := h.r i v hv; rwa [Nat.zero_add] at this
theorem At.free {w : World} {b : Nat} {cs : List Value} (h : At w b cs) (i : Nat) (hi : i < cs.length) : w.frozen? ⟨b, i, none⟩ = false := by
  have := (h.t i hi).2; rwa [Nat.zero_add] at this
theorem At.new (w : World) (cs : List Value) (T : TypeId) : At (w.alloc (.cells cs.toArray T)) w.heap.size cs := by
  have e : ∀ k, (w.alloc (.cells cs.toArray T)).cell? ⟨w.heap.size, k, none⟩ = cs[k]? := fun k => (World.cell?_alloc_new _ _ _ _).trans (by simp)
  exact ⟨range_of e, there_of e (fun k => World.frozen?_alloc_new _ _ _ _) rfl, by simp⟩


/-- the walk stands still at a load or a store of a whole variable of type ty -/
theorem hold_load {P : Program} {ops : Array Oper} {rest : List Oper} {op : Oper} {a : Act} {w : World} {Q : Exit → Act → World → Prop} {x : Operand} (ty : TypeId) (ho : op.op = .load ty x)
    (h : Hid (wpList P ops Q (op :: rest) a w)) : wpList P ops Q (op :: rest) a w := h
theorem hold_store {P : Program} {ops : Array Oper} {rest : List Oper} {op : Oper} {a : Act} {w : World} {Q : Exit → Act → World → Prop} {x y : Operand} (ty : TypeId) (ho : op.op = .store ty x y)
    (h : Hid (wpList P ops Q (op :: rest) a w)) : wpList P ops Q (op :: rest) a w := h
theorem load_at {P : Program} {ops : Array Oper} {rest : List Oper} {op : Oper} {a : Act} {w : World} {Q : Exit → Act → World → Prop} {x : Operand} {b : Nat} {cs : List Value} {ty : TypeId} {d : TypeDesc}
    (h : At w b cs) (hu : P.underlying ty = some d) (hd : d.isRow = true) (hi : (P.info? ty).map (·.size) = some cs.length)
    (hx : a.eval x = .pointer (some ⟨b, 0, none⟩)) (hg : op.guard = none) (ho : op.op = .load ty x)
    (hn : wpList P ops Q rest (a.put op.dst (.agg cs.toArray)) w) : Hid (wpList P ops Q (op :: rest) a w) :=
  wpList_load_mid hg ty x ho b 0 hx _ d h.r hu hd hi hn
theorem store_at {P : Program} {ops : Array Oper} {rest : List Oper} {op : Oper} {a : Act} {w : World} {Q : Exit → Act → World → Prop} {x y : Operand} {b : Nat} {cs : List Value} {ty : TypeId} (vs : List Value)
    (h : At w b cs) (hl : vs.length = cs.length) (hi : (P.info? ty).map (·.size) = some cs.length) (ho1 : vs.toArray.all (·.oneCell') = true)
    (hx : a.eval x = .pointer (some ⟨b, 0, none⟩)) (hy : a.eval y = .agg vs.toArray) (hg : op.guard = none) (ho : op.op = .store ty x y)
    (hn : ∀ w', w' = w.setCells b 0 vs → At w' b vs → wpList P ops Q rest (a.put op.dst undef) w') : Hid (wpList P ops Q (op :: rest) a w) :=
  wpList_store_mid hg ty x y ho b 0 _ hx hy (by rw [show vs.toArray.size = cs.length from by simpa using hl]; exact h.t) (by rw [hi, ← hl]; simp) ho1 (hn _ rfl (h.store _ hl))
theorem At.cast {w : World} {b b' : Nat} {cs : List Value} (h : At w b cs) (e : b = b') : At w b' cs := e ▸ h
theorem At.alloc {w : World} {b : Nat} {cs : List Value} (h : At w b cs) (o : Obj) : At (w.alloc o) b cs := h.below ((Below.refl _ _).alloc (Nat.le_refl _) o) h.hi
theorem At.drew {w : World} {b : Nat} {cs : List Value} (h : At w b cs) : At w.drew b cs := h.below (Below.drew (Below.refl _ _)) h.hi
/-- two blocks, and one more behind them -/
theorem tail1 (w : World) (A Z : List Value) (T1 T2 : TypeId) (o : Obj) :
    At (((w.alloc (.cells A.toArray T1)).alloc (.cells Z.toArray T2)).alloc o) w.heap.size A ∧ At (((w.alloc (.cells A.toArray T1)).alloc (.cells Z.toArray T2)).alloc o) (w.heap.size + 1) Z ∧ Below w.heap.size w (((w.alloc (.cells A.toArray T1)).alloc (.cells Z.toArray T2)).alloc o) :=
  ⟨((At.new w A T1).alloc _).alloc _, ((At.new (w.alloc (.cells A.toArray T1)) Z T2).cast (by simp)).alloc _, (((Below.refl _ _).alloc (Nat.le_refl _) _).alloc (by simp) _).alloc (by simp; omega) _⟩
theorem tail2 (w : World) (A Z : List Value) (T1 T2 : TypeId) (o o2 : Obj) :
    At ((((w.alloc (.cells A.toArray T1)).alloc (.cells Z.toArray T2)).alloc o).alloc o2) w.heap.size A ∧ At ((((w.alloc (.cells A.toArray T1)).alloc (.cells Z.toArray T2)).alloc o).alloc o2) (w.heap.size + 1) Z ∧ Below w.heap.size w ((((w.alloc (.cells A.toArray T1)).alloc (.cells Z.toArray T2)).alloc o).alloc o2) := by
  obtain ⟨h1, h2, h3⟩ := tail1 w A Z T1 T2 o
  exact ⟨h1.alloc _, h2.alloc _, h3.alloc (by simp; omega) _⟩
theorem drew3 {w W : World} {b b2 : Nat} {A Z : List Value} (h : At W b A ∧ At W b2 Z ∧ Below w.heap.size w W) : At W.drew b A ∧ At W.drew b2 Z ∧ Below w.heap.size w W.drew :=
  ⟨h.1.drew, h.2.1.drew, h.2.2.drew⟩
theorem tail4 (w : World) (A B C D : List Value) (T1 T2 T3 T4 : TypeId) :
    At ((((w.alloc (.cells A.toArray T1)).alloc (.cells B.toArray T2)).alloc (.cells C.toArray T3)).alloc (.cells D.toArray T4)) (w.heap.size + 1 + 1 + 1) D ∧ At ((((w.alloc (.cells A.toArray T1)).alloc (.cells B.toArray T2)).alloc (.cells C.toArray T3)).alloc (.cells D.toArray T4)) (w.heap.size + 1) B ∧ Below w.heap.size w ((((w.alloc (.cells A.toArray T1)).alloc (.cells B.toArray T2)).alloc (.cells C.toArray T3)).alloc (.cells D.toArray T4)) :=
  ⟨(At.new (((w.alloc (.cells A.toArray T1)).alloc (.cells B.toArray T2)).alloc (.cells C.toArray T3)) D T4).cast (by simp), (tail2 w A B T1 T2 (.cells C.toArray T3) (.cells D.toArray T4)).2.1, (tail2 w A B T1 T2 (.cells C.toArray T3) (.cells D.toArray T4)).2.2⟩
theorem tail5 (w : World) (A B C D : List Value) (T1 T2 T3 T4 : TypeId) (o : Obj) :
    At (((((w.alloc (.cells A.toArray T1)).alloc (.cells B.toArray T2)).alloc (.cells C.toArray T3)).alloc (.cells D.toArray T4)).alloc o) (w.heap.size + 1 + 1 + 1) D ∧ At (((((w.alloc (.cells A.toArray T1)).alloc (.cells B.toArray T2)).alloc (.cells C.toArray T3)).alloc (.cells D.toArray T4)).alloc o) (w.heap.size + 1) B ∧ Below w.heap.size w (((((w.alloc (.cells A.toArray T1)).alloc (.cells B.toArray T2)).alloc (.cells C.toArray T3)).alloc (.cells D.toArray T4)).alloc o) := by
  obtain ⟨h1, h2, h3⟩ := tail4 w A B C D T1 T2 T3 T4
  exact ⟨h1.alloc _, h2.alloc _, h3.alloc (by simp; omega) _⟩
/-- the empty parent -/
def ZV : List Value := [.int .i64 0, .int .i64 0, .int .i64 0, .int .i64 0, .int .i64 0, .int .i64 0, .string ⟨#[]⟩, .bool false, .bool false, .int .i64 0, .int .i64 0, .int .i64 0, .int .i64 0, .int .i64 0, .string ⟨#[]⟩, .int .i64 0]
theorem size23 : (Try.prog.info? 23).map (·.size) = some 10 := by kernel_rfl
end Go.Proofs.Ytppkbifhhpakgaa
