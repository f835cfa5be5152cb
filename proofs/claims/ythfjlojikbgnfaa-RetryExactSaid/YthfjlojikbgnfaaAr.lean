/- Bunches that are repeated: rows of structs of eleven cells; their members: rows of structs of three. -/
import Derived.Test.YthfjlojikbgnfaaBas
import Derived.Test.YthfjlojikbgnfaaArgs
import Derived.Deep.MidRow
import Derived.Deep.Cut
import Derived.LoopTactic
import Derived.Laws.CopyOwn
namespace Go.Proofs.Ythfjlojikbgnfaa
open Go.ChangeShapes Go.WideShapes Go.ChangeAt Go.RowKit

structure Mb where
  id : Int
  fo : Int
  ct : Int
def Mb.cells (m : Mb) : List Value := [.int .i64 m.id, .int .i64 m.fo, .int .i64 m.ct]
/-- a bunch that is repeated; mem: its members, which lie elsewhere -/
structure Ar where
  id : Int
  ten : Int
  kd : Int
  sec : Int
  cnt : Int
  dat : ByteArray
  fua : Bool
  ma : Option Addr
  ml : Nat
  mc : Nat
  tm : Int
  tk : Int
  tr : Int
  mem : List Mb
def Ar.bcells (a : Ar) : List Value := [.int .i64 a.id, .int .i64 a.ten, .int .i64 a.kd, .int .i64 a.sec, .int .i64 a.cnt, .string a.dat, .bool a.fua, .slice a.ma a.ml a.mc, .int .i64 a.tm]
def Ar.cells (a : Ar) : List Value := [.int .i64 a.id, .int .i64 a.ten, .int .i64 a.kd, .int .i64 a.sec, .int .i64 a.cnt, .string a.dat, .bool a.fua, .slice a.ma a.ml a.mc, .int .i64 a.tm, .int .i64 a.tk, .int .i64 a.tr]
def Ar.zero : Ar := ⟨0, 0, 0, 0, 0, ⟨#[]⟩, false, none, 0, 0, 0, 0, 0, []⟩
def bVal (a : Ar) : Value := .agg #[.int .i64 a.id, .int .i64 a.ten, .int .i64 a.kd, .int .i64 a.sec, .int .i64 a.cnt, .string a.dat, .bool a.fua, .slice a.ma a.ml a.mc, .int .i64 a.tm]
def arVal (a : Ar) : Value := .agg #[.int .i64 a.id, .int .i64 a.ten, .int .i64 a.kd, .int .i64 a.sec, .int .i64 a.cnt, .string a.dat, .bool a.fua, .slice a.ma a.ml a.mc, .int .i64 a.tm, .int .i64 a.tk, .int .i64 a.tr]
/-- what a bunch says, but for where its members lie -/
def key (a : Ar) : Ar := ⟨a.id, a.ten, a.kd, a.sec, a.cnt, a.dat, a.fua, none, 0, 0, a.tm, a.tk, a.tr, a.mem⟩
theorem oneC (a : Ar) : ∀ v ∈ a.cells, v.oneCell' = true := by
  intro u hu
  simp [Ar.cells] at hu
  rcases hu with rfl | rfl | rfl | rfl | rfl | rfl | rfl | rfl | rfl | rfl | rfl <;> rfl
def flat (l : List Ar) : List Value := l.flatMap Ar.cells
theorem flat_len (l : List Ar) : (flat l).length = l.length * 11 := by
  induction l with
  | nil => rfl
  | cons a r ih => simp only [flat, List.flatMap_cons, List.length_append] at *; rw [ih]; simp [Ar.cells]; omega
theorem flat_append (l m : List Ar) : flat (l ++ m) = flat l ++ flat m := by simp [flat]
theorem flat_one (a : Ar) : flat [a] = a.cells := by simp [flat]
theorem cells_one {l : List Ar} : ∀ u ∈ flat l, u.oneCell' = true := by
  intro u hu
  obtain ⟨a, _, ha⟩ := List.mem_flatMap.1 hu
  exact oneC a u ha
/-- the place of cell i of element j -/
theorem flat_at (l : List Ar) : ∀ (j : Nat), j < l.length → ∀ i, i < 11 → (flat l)[j * 11 + i]? = ((l.getD j Ar.zero).cells)[i]? := by
  induction l with
  | nil => intro j hj; simp at hj
  | cons a r ih =>
    intro j hj i hi
    have e : flat (a :: r) = a.cells ++ flat r := by simp [flat]
    rw [e]
    cases j with
    | zero =>
      rw [List.getElem?_append_left (by simp [Ar.cells]; omega)]
      simp [List.getD]
    | succ k =>
      rw [List.getElem?_append_right (by simp [Ar.cells]; omega)]
      have h2 := ih k (by simpa using hj) i hi
      rw [show (k + 1) * 11 + i - a.cells.length = k * 11 + i from by simp [Ar.cells]; omega, h2]
      simp [List.getD]
def mflat (l : List Mb) : List Value := l.flatMap Mb.cells
theorem mflat_len (l : List Mb) : (mflat l).length = l.length * 3 := by
  induction l with
  | nil => rfl
  | cons a r ih => simp only [mflat, List.flatMap_cons, List.length_append] at *; rw [ih]; simp [Mb.cells]; omega
theorem mflat_one {l : List Mb} : ∀ u ∈ mflat l, u.oneCell' = true := by
  intro u hu
  obtain ⟨a, _, ha⟩ := List.mem_flatMap.1 hu
  simp [Mb.cells] at ha
  rcases ha with rfl | rfl | rfl <;> rfl
theorem mflat_at (l : List Mb) : ∀ (j : Nat) (hj : j < l.length), ∀ i, i < 3 → (mflat l)[j * 3 + i]? = (l[j].cells)[i]? := by
  induction l with
  | nil => intro j hj; simp at hj
  | cons a r ih =>
    intro j hj i hi
    have e : mflat (a :: r) = a.cells ++ mflat r := by simp [mflat]
    rw [e]
    cases j with
    | zero =>
      rw [List.getElem?_append_left (by simp [Mb.cells]; omega)]
      simp
    | succ k =>
      rw [List.getElem?_append_right (by simp [Mb.cells]; omega)]
      have h2 := ih k (by simpa using hj) i hi
      rw [show (k + 1) * 3 + i - a.cells.length = k * 3 + i from by simp [Mb.cells]; omega, h2]
      simp

/-- a is the head of n elements with the cells cs, somewhere in a block -/
def RowOf (w : World) (a : Option Addr) (n cap : Nat) (cs : List Value) : Prop :=
  (a = none ∧ n = 0 ∧ cap = 0) ∨ ∃ g o, a = some ⟨g, o, none⟩ ∧ g < w.heap.size ∧ n ≤ cap ∧ cap ≤ maxLen ∧ w.rangeAt g o cs
theorem RowOf.keep {w w' : World} {a : Option Addr} {n cap : Nat} {cs : List Value} (h : RowOf w a n cap cs) (hs : w.heap.size ≤ w'.heap.size)
    (hk : ∀ g o, a = some ⟨g, o, none⟩ → g < w.heap.size → ∀ i, w'.cell? ⟨g, i, none⟩ = w.cell? ⟨g, i, none⟩) : RowOf w' a n cap cs := by
  rcases h with h | ⟨g, o, rfl, h1, h2, h3, h4⟩
  · exact Or.inl h
  · exact Or.inr ⟨g, o, rfl, Nat.lt_of_lt_of_le h1 hs, h2, h3, fun j v hv => (hk g o rfl h1 (o + j)).trans (h4 j v hv)⟩
theorem RowOf.below {w w' : World} {a : Option Addr} {n cap : Nat} {cs : List Value} (h : RowOf w a n cap cs) (hb : Below w.heap.size w w') : RowOf w' a n cap cs :=
  h.keep hb.size fun g _ _ h1 i => hb.cell (p := ⟨g, i, none⟩) h1
/-- the members of a lie where it says -/
def MemOK (w : World) (a : Ar) : Prop := a.mem.length = a.ml ∧ a.ml ≤ 5864062014805 ∧ (RowOf w a.ma a.ml a.mc (mflat a.mem) ∨ a.ml = 0 ∧ a.mc = 0)
theorem MemOK.below {w w' : World} {a : Ar} (h : MemOK w a) (hb : Below w.heap.size w w') : MemOK w' a := ⟨h.1, h.2.1, h.2.2.imp (fun h => h.below hb) id⟩
/-- the members of a lie in a block from B on -/
def MemLo (B : Nat) (a : Ar) : Prop := ∀ q, a.ma = some q → B ≤ q.block
theorem MemOK.keepG {w w' : World} {a : Ar} {g : Nat} (h : MemOK w a) (hs : w.heap.size ≤ w'.heap.size) (hl : ∀ q, a.ma = some q → q.block ≠ g)
    (hk : ∀ k i, k ≠ g → k < w.heap.size → w'.cell? ⟨k, i, none⟩ = w.cell? ⟨k, i, none⟩) : MemOK w' a :=
  ⟨h.1, h.2.1, h.2.2.imp (fun h => h.keep hs fun k o e h1 i => hk k i (hl _ e) h1) id⟩
/-- a is the head of a row l -/
def ARow (w : World) (a : Option Addr) (cap : Nat) (l : List Ar) : Prop := RowOf w a l.length cap (flat l)
theorem ARow.below {w w' : World} {a : Option Addr} {cap : Nat} {l : List Ar} (h : ARow w a cap l) (hb : Below w.heap.size w w') : ARow w' a cap l := RowOf.below h hb
theorem ARow.at {w : World} {a : Option Addr} {cap : Nat} {l : List Ar} (h : ARow w a cap l) (hl : 0 < l.length) :
    ∃ g o, a = some ⟨g, o, none⟩ ∧ g < w.heap.size ∧ l.length ≤ cap ∧ cap ≤ maxLen ∧ ∀ j, j < l.length → w.rangeAt g (o + j * 11) (l.getD j Ar.zero).cells := by
  rcases h with ⟨_, h, _⟩ | ⟨g, o, rfl, h1, h2, h3, h4⟩
  · omega
  · refine ⟨g, o, rfl, h1, h2, h3, fun j hj i v hv => ?_⟩
    have hi : i < 11 := (List.getElem?_eq_some_iff.1 hv).1
    rw [Nat.add_assoc]
    exact h4 _ v (by rw [flat_at l j hj i hi]; exact hv)
theorem ARow.ofOwn {w : World} {B n : Nat} {v : Value} {l : List Ar} (h : w.ownsRow B 40 11 v n (flat l)) : ∃ a cap, v = .slice a l.length cap ∧ n = l.length ∧ ARow w a cap l ∧ ∀ q, a = some q → B ≤ q.block := by
  have hl : n = l.length := by have := h.1; rw [flat_len] at this; omega
  subst hl
  rcases h.2 with ⟨hv, hn⟩ | ⟨g, cap, cur, hv, hB, _, hc1, hc2, _⟩
  · exact ⟨none, 0, by rw [hv, hn], rfl, Or.inl ⟨rfl, hn, rfl⟩, fun q e => by cases e⟩
  · refine ⟨some ⟨g, 0, none⟩, cap, hv, rfl, Or.inr ⟨g, 0, rfl, (h.lt g (by rw [hv]; rfl)).2, hc1, hc2, fun j u hj => ?_⟩, fun q e => by cases e; exact hB⟩
    have := h.cells (g := g) (by rw [hv]; rfl) j u hj
    rwa [Addr.add_lit] at this
theorem RowOf.ofOwn3 {w : World} {B n : Nat} {v : Value} {cs : List Value} (h : w.ownsRow B 60 3 v n cs) : ∃ a cap, v = .slice a n cap ∧ RowOf w a n cap cs ∧ ∀ q, a = some q → B ≤ q.block := by
  rcases h.2 with ⟨hv, hn⟩ | ⟨g, cap, cur, hv, hB, _, hc1, hc2, _⟩
  · exact ⟨none, 0, by rw [hv, hn], Or.inl ⟨rfl, hn, rfl⟩, fun q e => by cases e⟩
  · refine ⟨some ⟨g, 0, none⟩, cap, hv, Or.inr ⟨g, 0, rfl, (h.lt g (by rw [hv]; rfl)).2, hc1, hc2, fun j u hj => ?_⟩, fun q e => by cases e; exact hB⟩
    have := h.cells (g := g) (by rw [hv]; rfl) j u hj
    rwa [Addr.add_lit] at this
theorem area_info : (Try.prog.info? 40).map (fun i => (i.zero, i.size, i.bytes)) = some (some (.agg #[.int .i64 0, .int .i64 0, .int .i64 0, .int .i64 0, .int .i64 0, .string ⟨#[]⟩, .bool false, .slice none 0 0, .int .i64 0, .int .i64 0, .int .i64 0]), 11, 112) := by kernel_rfl
theorem mem_info : (Try.prog.info? 60).map (fun i => (i.zero, i.size, i.bytes)) = some (some (.agg #[.int .i64 0, .int .i64 0, .int .i64 0]), 3, 24) := by kernel_rfl
theorem size40 : (Try.prog.info? 40).map (·.size) = some 11 := by kernel_rfl
theorem size38 : (Try.prog.info? 38).map (·.size) = some 9 := by kernel_rfl
theorem own_mono {w : World} {B C : Nat} {e : TypeId} {size n : Nat} {v : Value} {xs : List Value} (h : w.ownsRow B e size v n xs) (hb : C ≤ B) : w.ownsRow C e size v n xs := by
  refine ⟨h.1, ?_⟩
  rcases h.2 with hn | ⟨g, cap, cur, e1, e2, e3⟩
  · exact Or.inl hn
  · exact Or.inr ⟨g, cap, cur, e1, Nat.le_trans hb e2, e3⟩
theorem ownsRow_below {w w' : World} {B : Nat} {e : TypeId} {size n : Nat} {v : Value} {xs : List Value} (h : w.ownsRow B e size v n xs) (hb : Below w.heap.size w w') : w'.ownsRow B e size v n xs := by
  refine ⟨h.1, ?_⟩
  rcases h.2 with hn | ⟨g, cap, cur, rfl, hg, hgg, rest⟩
  · exact Or.inl hn
  · exact Or.inr ⟨g, cap, cur, rfl, hg, by rw [hb.block g (Array.getElem?_eq_some_iff.1 hgg).1]; exact hgg, rest⟩
theorem own_drewN {w : World} {B : Nat} {e : TypeId} {size n : Nat} {v : Value} {xs : List Value} (h : w.ownsRow B e size v n xs) (q : Nat) : (w.drewN q).ownsRow B e size v n xs := h
theorem getD_get {l : List Ar} {i : Nat} (h : i < l.length) : l.getD i Ar.zero = l[i] := by simp [List.getD, h]

/-! ### the cells of a block as a list -/
/-- the walk stands still at a load or a store of a whole variable of type ty -/
theorem hold_load {P : Program} {ops : Array Oper} {rest : List Oper} {op : Oper} {a : Act} {w : World} {Q : Exit → Act → World → Prop} {x : Operand} (ty : TypeId) (ho : op.op = .load ty x)
    (h : Hid (wpList P ops Q (op :: rest) a w)) : wpList P ops Q (op :: rest) a w := h
theorem hold_store {P : Program} {ops : Array Oper} {rest : List Oper} {op : Oper} {a : Act} {w : World} {Q : Exit → Act → World → Prop} {x y : Operand} (ty : TypeId) (ho : op.op = .store ty x y)
    (h : Hid (wpList P ops Q (op :: rest) a w)) : wpList P ops Q (op :: rest) a w := h
theorem load_ato {P : Program} {ops : Array Oper} {rest : List Oper} {op : Oper} {a : Act} {w : World} {Q : Exit → Act → World → Prop} {x : Operand} {b : Nat} (o : Nat) {cs : List Value} {ty : TypeId} {d : TypeDesc}
    (h : w.rangeAt b o cs) (hu : P.underlying ty = some d) (hd : d.isRow = true) (hi : (P.info? ty).map (·.size) = some cs.length)
    (hx : a.eval x = .pointer (some ⟨b, o, none⟩)) (hg : op.guard = none) (ho : op.op = .load ty x)
    (hn : wpList P ops Q rest (a.put op.dst (.agg cs.toArray)) w) : Hid (wpList P ops Q (op :: rest) a w) :=
  wpList_load_mid hg ty x ho b o hx _ d h hu hd hi hn
theorem store_ato {P : Program} {ops : Array Oper} {rest : List Oper} {op : Oper} {a : Act} {w : World} {Q : Exit → Act → World → Prop} {x y : Operand} {b : Nat} (o : Nat) {n : Nat} {ty : TypeId} (vs : List Value)
    (h : w.there b o n) (hl : vs.length = n) (hi : (P.info? ty).map (·.size) = some n) (ho1 : vs.toArray.all (·.oneCell') = true)
    (hx : a.eval x = .pointer (some ⟨b, o, none⟩)) (hy : a.eval y = .agg vs.toArray) (hg : op.guard = none) (ho : op.op = .store ty x y)
    (hn : ∀ w', w' = w.setCells b o vs → wpList P ops Q rest (a.put op.dst undef) w') : Hid (wpList P ops Q (op :: rest) a w) :=
  wpList_store_mid hg ty x y ho b o _ hx hy (by rw [show vs.toArray.size = n from by simpa using hl]; exact h) (by rw [hi, ← hl]; simp) ho1 (hn _ rfl)
theorem range_new {w w' : World} {B g : Nat} (cs : List Value) (T : TypeId) (hg : g = w.heap.size) (hb : Below B (w.alloc (.cells cs.toArray T)) w') (hB : g < B) : w'.rangeAt g 0 cs := by
  subst hg
  intro j v hv
  rw [Nat.zero_add, hb.cell (p := ⟨w.heap.size, j, none⟩) hB, World.cell?_alloc_new]
  simpa using hv
theorem size_cells (b : Nat) : ∀ (vs : List Value) (o : Nat) (w : World), (w.setCells b o vs).heap.size = w.heap.size
  | [], _, _ => rfl
  | v :: vs, o, w => by
    show ((w.setCell ⟨b, o, none⟩ v).setCells b (o + 1) vs).heap.size = _
    rw [size_cells b vs (o + 1)]; simp [World.setCell]
theorem below_cells {B b : Nat} {a : World} (hb : B ≤ b) : ∀ (vs : List Value) (o : Nat) {w : World}, Below B a w → Below B a (w.setCells b o vs)
  | [], _, _, h => h
  | v :: vs, o, _, h => below_cells hb vs (o + 1) (h.setCell (p := ⟨b, o, none⟩) hb v)
theorem results_cell (P : Program) (fn : Func) (tmps : Array Value) {t : Tmp} {ty : TypeId} (h : fn.results = #[.cell t ty]) (w : World) (b : Nat) (cs : List Value) (ht : tmps.getD t undef = .pointer (some ⟨b, 0, none⟩)) (d : TypeDesc) (hc : w.rangeAt b 0 cs)
    (hu : P.underlying ty = some d) (hd : d.isRow = true) (hi : (P.info? ty).map (·.size) = some cs.length) : (results fn tmps).run P w = .ok (.agg cs.toArray) w := by
  have := run_loadVar_mid (P := P) w b 0 ty cs d hc hu hd hi
  have ht2 : tmps[t]?.getD undef = .pointer (some ⟨b, 0, none⟩) := by rw [← ht]; simp
  simp [results, h, ht2, this, asAddr]
/-- block b holds the cells cs, which may be written -/
structure At (w : World) (b : Nat) (cs : List Value) : Prop where
  r : w.rangeAt b 0 cs
  t : w.there b 0 cs.length
  hi : b < w.heap.size
theorem At.below {w w' : World} {b B : Nat} {cs : List Value} (h : At w b cs) (hb : Below B w w') (hB : b < B) : At w' b cs :=
  ⟨fun j v hv => (hb.cell (p := ⟨b, 0 + j, none⟩) hB).trans (h.r j v hv),
   fun j hj => ⟨by rw [hb.cell (p := ⟨b, 0 + j, none⟩) hB]; exact (h.t j hj).1, by rw [hb.frozen (p := ⟨b, 0 + j, none⟩) hB]; exact (h.t j hj).2⟩, Nat.lt_of_lt_of_le h.hi hb.size⟩
theorem At.store {w : World} {b : Nat} {cs : List Value} (h : At w b cs) (vs : List Value) (hl : vs.length = cs.length) : At (w.setCells b 0 vs) b vs :=
  ⟨World.rangeAt_setCells_same _ _ _ _ (by rw [hl]; exact h.t), by rw [hl]; exact World.there_setCells h.t _ _ _, by rw [size_cells]; exact h.hi⟩
theorem At.apart {w : World} {b b' : Nat} {cs : List Value} (h : At w b cs) (hne : b ≠ b') (o : Nat) (vs : List Value) : At (w.setCells b' o vs) b cs :=
  ⟨World.rangeAt_setCells_apart h.r _ _ _ (Or.inl hne), World.there_setCells h.t _ _ _, by rw [size_cells]; exact h.hi⟩
theorem range_set {w : World} {b : Nat} {A : List Value} (h : w.rangeAt b 0 A) (i : Nat) (v : Value) : (w.setCell ⟨b, i, none⟩ v).rangeAt b 0 (A.set i v) := by
  intro j u hu
  rw [Nat.zero_add]
  by_cases hij : i = j
  · subst hij
    have hl : i < A.length := by
      have := (List.getElem?_eq_some_iff.1 hu).1; simpa using this
    rw [List.getElem?_set_self hl] at hu; cases hu
    have h1 := h i _ (List.getElem?_eq_getElem hl)
    rw [Nat.zero_add] at h1
    exact World.cell?_setCell_same _ _ _ h1
  · rw [List.getElem?_set_ne hij] at hu
    rw [World.cell?_setCell_other]
    · have := h j u hu; rwa [Nat.zero_add] at this
    · exact fun e => hij (Addr.mk.inj e).2.1
theorem there_set {w : World} {b n : Nat} (h : w.there b 0 n) (x : Addr) (v : Value) : (w.setCell x v).there b 0 n := by
  intro j hj
  refine ⟨?_, by rw [World.frozen?_setCell]; exact (h j hj).2⟩
  have h1 := (h j hj).1
  by_cases hx : x = ⟨b, 0 + j, none⟩
  · subst hx
    obtain ⟨u, hu⟩ := Option.isSome_iff_exists.1 h1
    rw [World.cell?_setCell_same _ _ _ hu]; rfl
  · rw [World.cell?_setCell_other _ _ _ _ hx]; exact h1
theorem At.set {w : World} {b : Nat} {cs : List Value} (h : At w b cs) (i : Nat) (v : Value) : At (w.setCell ⟨b, i, none⟩ v) b (cs.set i v) :=
  ⟨range_set h.r i v, by rw [List.length_set]; exact there_set h.t _ _, by simpa [World.setCell] using h.hi⟩
theorem At.cell {w : World} {b : Nat} {cs : List Value} (h : At w b cs) (i : Nat) (v : Value) (hv : cs[i]? = some v) : w.cell? ⟨b, i, none⟩ = some v := by
  have := h.r i v hv; rwa [Nat.zero_add] at this
theorem At.free {w : World} {b : Nat} {cs : List Value} (h : At w b cs) (i : Nat) (hi : i < cs.length) : w.frozen? ⟨b, i, none⟩ = false := by
  have := (h.t i hi).2; rwa [Nat.zero_add] at this
theorem At.new (w : World) (cs : List Value) (T : TypeId) : At (w.alloc (.cells cs.toArray T)) w.heap.size cs := by
  have e : ∀ k, (w.alloc (.cells cs.toArray T)).cell? ⟨w.heap.size, k, none⟩ = cs[k]? := fun k => (World.cell?_alloc_new _ _ _ _).trans (by simp)
  refine ⟨fun j v hv => by rw [Nat.zero_add, e]; exact hv, fun j hj => ⟨?_, World.frozen?_alloc_new _ _ _ _⟩, by simp⟩
  rw [Nat.zero_add, e, List.getElem?_eq_getElem hj]; rfl
theorem At.alloc {w : World} {b : Nat} {cs : List Value} (h : At w b cs) (o : Obj) : At (w.alloc o) b cs := h.below ((Below.refl _ _).alloc (Nat.le_refl _) o) h.hi
theorem At.cast {w : World} {b b' : Nat} {cs : List Value} (h : At w b cs) (e : b = b') : At w b' cs := e ▸ h
end Go.Proofs.Ythfjlojikbgnfaa
