/- Layer 46, shared texts of this seat, part 39. -/
import Derived.Laws.OwnMore
import Derived.Test.YtimhaidiclbnhaaGreatM38
import Derived.Test.YtimhaidiclbnhaaGreatM00
import Derived.Test.YtimhaidiclbnhaaGreatM37
import Derived.Test.YtimhaidiclbnhaaGreatM05
/- A region that draws its order, each operation looked at once; the frame hangs on what has come up. -/
set_option linter.unusedSimpArgs false
set_option linter.unusedVariables false
namespace Go.Proofs.YtimhaidiclbnhaaGreat
section
variable {P : Program} {ops : Array Oper} {ι : Type} {F : ι → Act} {T : ι → Array Bool → World → Prop} {l : Array Bool} {a : Act} {i : Nat} {o : Oper}
theorem put_alike (a F : Act) (hs : a.tmps.size = F.tmps.size) (t : Nat) (v : Value) : (a.put (some t) v).tmps.getD t undef = (F.put (some t) v).tmps.getD t undef := by
  rcases Nat.lt_or_ge t a.tmps.size with h2 | h2
  · have h3 : t < F.tmps.size := by omega
    simp [Act.put, h2, h3]
  · have h3 : F.tmps.size ≤ t := by omega
    simp [Act.put]
    rw [if_neg (by omega), if_neg (by omega)]
theorem Near.puti {F F' : Act} (hn : Near ops F l a) (hi : ops[i]? = some o) (v : Value) (hv : F.put o.dst v = F') : Near ops F' (l.setIfInBounds i true) (a.put o.dst v) := by
  subst hv
  refine ⟨by rw [put_size, put_size]; exact hn.size, by rw [put_defers', put_defers']; exact hn.defers, fun t ht => ?_⟩
  by_cases hd : o.dst = some t
  · rw [hd]
    exact put_alike a F hn.size t v
  · rw [put_other _ _ hd, put_other _ _ hd]
    refine hn.same t (fun j p hj hdj => ?_)
    have h1 := ht j p hj hdj
    have hne : i ≠ j := fun e => by
      subst e; rw [hi] at hj; cases hj; exact hd hdj
    rwa [getD_set_ne false hne] at h1
theorem wp_neari {K : Act → World → Prop} {Q : Exit → Act → World → Prop} {w : World} {β : ι} {T : ι → World → Prop} (he : execOp a.eval o = execOp (F β).eval o) (hde : ∀ β', (F β').defers = (F β).defers)
    (h : o.wp P (F β) w (fun a' w' => ∃ β', a' = F β' ∧ T β' w') (fun _ _ _ => False)) (hd : (F β).defers.length = a.defers.length)
    (hK : ∀ v w' β', (F β).put o.dst v = F β' → T β' w' → K (a.put o.dst v) w') : o.wp P a w K Q := by
  unfold Oper.wp at *
  rw [he]
  generalize (execOp (F β).eval o).run P w = r at *
  cases r with
  | ok n w' =>
    cases n <;> simp only [Oper.upon] at h ⊢
    case value v => obtain ⟨β', h1, h2⟩ := h; exact hK _ _ _ h1 h2
    case skip => obtain ⟨β', h1, h2⟩ := h; exact hK _ _ _ h1 h2
    case defer d =>
      obtain ⟨β', h1, h2⟩ := h
      have := congrArg (fun x : Act => x.defers.length) h1
      simp only [put_defers', hde β'] at this
      simp at this
    case enter f args =>
      refine Calls.mono h (fun e w'' he => ?_)
      cases e with
      | returned v => obtain ⟨β', h1, h2⟩ := he; exact hK _ _ _ h1 h2
      | panicked c => exact he.elim
      | outgrown => obtain ⟨_, _, hf⟩ := he; exact hf.elim
    case row row args => exact Rows.mono h (fun v w'' he => by obtain ⟨β', h1, h2⟩ := he; exact hK _ _ _ h1 h2)
    all_goals exact h
  | halt x w' => cases x <;> simp only [Oper.upon] at h ⊢ <;> exact h.elim
/-- what is asked of operation i -/
def StepOki (P : Program) (ops : Array Oper) (F : ι → Act) (T : ι → Array Bool → World → Prop) (i : Nat) (o : Oper) : Prop :=
  o.guard = none ∧ ∀ β l w, Closed ops l → T β l w → l.getD i true = false → (∀ e ∈ o.after, Region.binds .any e = true → l.getD e.on false = true) →
    o.wp P (F β) w (fun a' w' => ∃ β', a' = F β' ∧ T β' (l.setIfInBounds i true) w') (fun _ _ _ => False)
def StepsOki (P : Program) (ops : Array Oper) (F : ι → Act) (T : ι → Array Bool → World → Prop) : Nat → List Oper → Prop
  | _, [] => True
  | i, o :: os => StepOki P ops F T i o ∧ StepsOki P ops F T (i + 1) os
theorem StepsOki.at : ∀ {os : List Oper} {k i : Nat} {o : Oper}, StepsOki P ops F T k os → os[i]? = some o → StepOki P ops F T (k + i) o
  | [], _, _, _, _, h => by simp at h
  | x :: os, k, 0, o, hs, h => by simp at h; subst h; exact hs.1
  | x :: os, k, i + 1, o, hs, h => by
    have := StepsOki.at hs.2 (i := i) (by simpa using h)
    rwa [show k + 1 + i = k + (i + 1) from by omega] at this
theorem stepsi_nil {i : Nat} : StepsOki P ops F T i [] := True.intro
theorem stepsi_cons {i : Nat} {o : Oper} {os : List Oper} (h : StepOki P ops F T i o) (hs : StepsOki P ops F T (i + 1) os) : StepsOki P ops F T i (o :: os) := ⟨h, hs⟩
theorem any_calmi {Q : Exit → Act → World → Prop} (hc : calmOk ops = true) (hde : ∀ β β', (F β').defers = (F β).defers) (hs : StepsOki P ops F T 0 ops.toList)
    (fin : ∀ β l w, T β l w → (∀ j, j < ops.size → l.getD j false = true) → Q .normal (F β) w) :
    ∀ (fuel : Nat) (β : ι) (l : Array Bool) (a : Act) (w : World), unlisted l ≤ fuel → l.size = ops.size → Closed ops l → Near ops (F β) l a → T β l w → wpAny P .any ops Q fuel l a w := by
  have done : ∀ (β : ι) (l : Array Bool) (a : Act) (w : World), l.size = ops.size → Near ops (F β) l a → T β l w → Region.ready .any ops l = [] → Q .normal a w := by
    intro β l a w hl hn hT hr
    have hall := all_up hc hl hr
    have e : a = F β := by
      have hF := fin β l w hT hall
      clear hF
      generalize F β = G at hn
      obtain ⟨t1, d1⟩ := a
      obtain ⟨t2, d2⟩ := G
      have h1 : t1 = t2 := by
        refine Array.ext hn.size (fun t h1 h2 => ?_)
        have := getElem_of_getD hn.size (hn.same t (fun j o hj _ => hall j (Array.getElem?_eq_some_iff.1 hj).1))
        simpa [h1, h2] using this
      have h2 : d1 = d2 := hn.defers
      rw [h1, h2]
    rw [e]; exact fin β l w hT hall
  intro fuel
  induction fuel with
  | zero =>
    intro β l a w hf hl hcl hn hT
    have hr : Region.ready .any ops l = [] := by
      cases h : Region.ready .any ops l with
      | nil => rfl
      | cons i r =>
        have hi : i ∈ Region.ready .any ops l := by rw [h]; simp
        have := unlisted_set (mem_ready.1 hi).1
        omega
    exact ⟨hr, done β l a w hl hn hT hr⟩
  | succ fuel ih =>
    intro β l a w hf hl hcl hn hT
    refine ⟨done β l a w hl hn hT, fun i hi => ?_⟩
    obtain ⟨hun, o, ho, hafter⟩ := mem_ready.1 hi
    have hst := StepsOki.at hs (i := i) (o := o) (by simpa using ho)
    rw [Nat.zero_add] at hst
    have s1 := hst.2 β l w hcl hT hun hafter
    have hcl' : Closed ops (l.setIfInBounds i true) := by
      intro j p hj hjl e he hb
      by_cases hji : j = i
      · subst hji; rw [ho] at hj; cases hj; exact getD_set_true (hafter e he hb)
      · rw [getD_set_ne false (Ne.symm hji)] at hjl
        exact getD_set_true (hcl j p hj hjl e he hb)
    unfold wpOp
    simp only [ho]
    have hw : Region.wanted o (yielded ops a.tmps) = true := by unfold Region.wanted; rw [hst.1]
    rw [hw, if_pos rfl]
    exact Or.inl (wp_neari (hn.exec hc ho hafter) (hde β) s1 (by rw [hn.defers]) fun v w' β' hv hT' =>
      ih β' _ _ _ (by have := unlisted_set hun; omega) (by simpa using hl) hcl' (hn.puti ho v hv) hT')
theorem region_calmi {os : List Oper} {Q : Exit → Act → World → Prop} {id : Nat} {A : Act} {W : World} (Facts : (ι → Act) → Prop) (T : ι → Array Bool → World → Prop) (vals : ι → List Value) (hm : P.follows .mixedOrders = true) (hc : calmOk os.toArray = true)
    (hf : Facts fun β => putAll os (vals β) A) (β0 : ι) (h0 : T β0 (Array.replicate os.length false) W.drew) (hs : ∀ F, Facts F → StepsOki P os.toArray F T 0 os)
    (fin : ∀ β l w, T β l w → (∀ j, j < os.length → l.getD j false = true) → Q .normal (putAll os (vals β) A) w) : (Code.region id os.toArray true).wp P Q A W := by
  have hs : StepsOki P os.toArray (fun β => putAll os (vals β) A) T 0 os.toArray.toList := by simpa using hs _ hf
  have h0 : T β0 (Array.replicate os.toArray.size false) W.drew := by simpa using h0
  have fin : ∀ β l w, T β l w → (∀ j, j < os.toArray.size → l.getD j false = true) → Q .normal ((fun β => putAll os (vals β) A) β) w := fun β l w hT h => fin β l w hT (fun j hj => h j (by simpa using hj))
  have hde : ∀ β β', ((fun β => putAll os (vals β) A) β').defers = ((fun β => putAll os (vals β) A) β).defers := fun β β' => by
    show (putAll os (vals β') A).defers = (putAll os (vals β) A).defers
    rw [(putAll_same os (vals β') A).2.1, (putAll_same os (vals β) A).2.1]
  have hnear : Near os.toArray ((fun β => putAll os (vals β) A) β0) (Array.replicate os.toArray.size false) A := by
    obtain ⟨h1, h2, h3⟩ := putAll_same os (vals β0) A
    refine ⟨h1.symm, h2.symm, fun t ht => (h3 t (fun o ho hd => ?_)).symm⟩
    obtain ⟨j, hj, rfl⟩ := List.mem_iff_getElem.1 ho
    have := ht j _ (by simp) hd
    simp [hj] at this
  clear hf
  generalize (fun β => putAll os (vals β) A) = F at *
  refine wp_region_any hm (any_calmi hc hde hs fin _ β0 _ _ _ (by simp [unlisted, Array.toList_replicate]) (by simp) ?_ hnear h0)
  intro j o hj hl
  have hlt : j < os.toArray.size := (Array.getElem?_eq_some_iff.1 hj).1
  simp at hlt
  simp [hlt] at hl
end
theorem put_comm (A : Act) {d e : Option Tmp} (u v : Value) (h : d ≠ e) : (A.put d u).put e v = (A.put e v).put d u := by
  cases d with
  | none => rfl
  | some d => cases e with
    | none => rfl
    | some e =>
      have hne : d ≠ e := fun x => h (by rw [x])
      simp only [Act.put, Act.mk.injEq, and_true]
      exact Array.setIfInBounds_comm _ _ hne
theorem putAll_far : ∀ (os : List Oper) (vs : List Value) (A : Act) (d : Option Tmp) (v : Value), (os.all fun o => o.dst != d) = true → putAll os vs (A.put d v) = (putAll os vs A).put d v
  | [], _, _, _, _, _ => rfl
  | o :: os, [], _, _, _, _ => rfl
  | o :: os, u :: vs, A, d, v, h => by
    simp only [List.all_cons, Bool.and_eq_true, bne_iff_ne] at h
    show putAll os vs ((A.put d v).put o.dst u) = (putAll os vs (A.put o.dst u)).put d v
    rw [put_comm A v u (fun e => h.1 e.symm)]
    exact putAll_far os vs _ d v h.2
theorem put_put (A : Act) (d : Option Tmp) (u v : Value) : (A.put d u).put d v = A.put d v := by
  cases d with
  | none => rfl
  | some d => simp [Act.put]
theorem putAll_put : ∀ (os : List Oper) (vs : List Value) (A : Act) (i : Nat) (d : Tmp) (v : Value), (os[i]?.bind (·.dst)) = some d → ((os.take i ++ os.drop (i + 1)).all fun o => o.dst != some d) = true → i < vs.length → (putAll os vs A).put (some d) v = putAll os (vs.set i v) A
  | [], _, _, _, _, _, h, _, _ => by simp at h
  | o :: os, [], _, _, _, _, _, _, h => by simp at h
  | o :: os, u :: vs, A, 0, d, v, h, h2, _ => by
    simp at h
    simp only [List.take_zero, List.nil_append, Nat.zero_add, List.drop_succ_cons, List.drop_zero] at h2
    show (putAll os vs (A.put o.dst u)).put (some d) v = putAll os vs (A.put o.dst v)
    rw [h, ← putAll_far os vs _ (some d) v h2, put_put]
  | o :: os, u :: vs, A, i + 1, d, v, h, h2, h3 => by
    simp only [List.take_succ_cons, List.drop_succ_cons, List.cons_append, List.all_cons, Bool.and_eq_true] at h2
    exact putAll_put os vs (A.put o.dst u) i d v (by simpa using h) h2.2 (by simpa using h3)
theorem putAll_at (os : List Oper) (vs : List Value) (A : Act) (i : Nat) (d : Tmp) (v : Value) (h : (os[i]?.bind (·.dst)) = some d) (h2 : ((os.take i ++ os.drop (i + 1)).all fun o => o.dst != some d) = true) (h3 : vs[i]? = some v) (h4 : d < A.tmps.size) : (putAll os vs A).tmps[d]? = some v := by
  have hi := (List.getElem?_eq_some_iff.1 h3).1
  have e : vs.set i v = vs := by rw [← (List.getElem?_eq_some_iff.1 h3).2]; exact List.set_getElem_self hi
  have h5 := putAll_put os vs A i d v h h2 hi
  rw [e] at h5
  rw [← h5]
  have h6 : d < (putAll os vs A).tmps.size := by rw [(putAll_same os vs A).1]; exact h4
  simp [Act.put, h6]
theorem putAll_old (os : List Oper) (vs : List Value) (A : Act) (d : Tmp) (v : Value) (h : (os.all fun o => o.dst != some d) = true) (h3 : A.tmps[d]? = some v) : (putAll os vs A).tmps[d]? = some v := by
  have h1 := (putAll_same os vs A).2.2 d (fun o ho => by have := List.all_eq_true.1 h o ho; simpa using this)
  have h2 := (putAll_same os vs A).1
  obtain ⟨hlt, he⟩ := Array.getElem?_eq_some_iff.1 h3
  rw [Array.getElem?_eq_some_iff]
  have hl : d < (putAll os vs A).tmps.size := by rw [h2]; exact hlt
  refine ⟨hl, ?_⟩
  simp [hl, hlt] at h1
  rw [h1, he]
end Go.Proofs.YtimhaidiclbnhaaGreat
/- Layer 46: a region that makes blocks in any order. -/
set_option linter.unusedSimpArgs false
set_option linter.unusedVariables false
set_option maxRecDepth 100000
namespace Go.Proofs.YtimhaidiclbnhaaGreat.Ver
open Go.ChangeShapes Go.WideShapes Go.ChangeAt Go.RowKit
open Des (Dv De Dn DIn DBlk DAns Vi At RowOf ints DSz)
open Ara (Ar ARow)
open Con (StrRow)

/-- block b is known whole -/
def Bl (w : World) (b : Nat) (cs : List Value) (t : TypeId) : Prop := w.heap[b]? = some (.cells cs.toArray t)
theorem Bl.hi {w : World} {b : Nat} {cs : List Value} {t : TypeId} (h : Bl w b cs t) : b < w.heap.size := by
  rcases Nat.lt_or_ge b w.heap.size with h1 | h1
  · exact h1
  · unfold Bl at h; rw [Array.getElem?_eq_none h1] at h; cases h
theorem Bl.at {w : World} {b : Nat} {cs : List Value} {t : TypeId} (h : Bl w b cs t) : At w b cs := by
  have e : ∀ k, w.cell? ⟨b, k, none⟩ = cs[k]? := fun k => by
    have h1 : w.heap[b]? = some (.cells cs.toArray t (0, 0)) := h
    rw [cell_of_row w b k cs.toArray t (0, 0) h1]; simp
  have hf : ∀ k, w.frozen? ⟨b, k, none⟩ = false := fun k => by
    have h1 : w.heap[b]? = some (.cells cs.toArray t (0, 0)) := h
    simp [World.frozen?, h1]
  refine ⟨fun j v hv => by rw [Nat.zero_add, e]; exact hv, fun j hj => ⟨?_, hf _⟩, h.hi⟩
  rw [Nat.zero_add, e, List.getElem?_eq_getElem hj]; rfl
theorem Bl.below {w w' : World} {b B : Nat} {cs : List Value} {t : TypeId} (h : Bl w b cs t) (hb : Below B w w') (hB : b < B) : Bl w' b cs t := (hb.block b hB).trans h
theorem Bl.new (w : World) (cs : List Value) (t : TypeId) : Bl (w.alloc (.cells cs.toArray t)) w.heap.size cs t := Go.heap_alloc_new w _
/-- blocks made so far: where each lies, what it holds -/
structure Mks (W1 : World) (pos : List Nat) (zs : List (List Value × TypeId)) (β : Nat → Nat) (l : Array Bool) (w : World) : Prop where
  bel : Below W1.heap.size W1 w
  al : ∀ j, j < pos.length → l.getD (pos.getD j 0) false = true → W1.heap.size ≤ β j ∧ Bl w (β j) (zs.getD j ([], 0)).1 (zs.getD j ([], 0)).2
  ne : ∀ i j, i < pos.length → j < pos.length → i ≠ j → l.getD (pos.getD i 0) false = true → l.getD (pos.getD j 0) false = true → β i ≠ β j
def upd (β : Nat → Nat) (j v : Nat) : Nat → Nat := fun k => if k = j then v else β k
section
variable {W1 : World} {pos : List Nat} {zs : List (List Value × TypeId)} {β : Nat → Nat} {l : Array Bool} {w : World}
theorem Mks.pure (h : Mks W1 pos zs β l w) {i : Nat} (hi : ∀ j, j < pos.length → pos.getD j 0 ≠ i) : Mks W1 pos zs β (l.setIfInBounds i true) w :=
  ⟨h.bel, fun j hj hl => h.al j hj (by rwa [getD_set_ne false (fun e => hi j hj e.symm)] at hl),
   fun a b ha hb hab h1 h2 => h.ne a b ha hb hab (by rwa [getD_set_ne false (fun e => hi a ha e.symm)] at h1) (by rwa [getD_set_ne false (fun e => hi b hb e.symm)] at h2)⟩
theorem Mks.make (h : Mks W1 pos zs β l w) {j : Nat} (hj : j < pos.length) (hp : ∀ k, k < pos.length → k ≠ j → pos.getD k 0 ≠ pos.getD j 0) : Mks W1 pos zs (upd β j w.heap.size) (l.setIfInBounds (pos.getD j 0) true) (w.alloc (.cells (zs.getD j ([], 0)).1.toArray (zs.getD j ([], 0)).2)) := by
  have hb : Below w.heap.size w (w.alloc (.cells (zs.getD j ([], 0)).1.toArray (zs.getD j ([], 0)).2)) := (Below.refl _ _).alloc (Nat.le_refl _) _
  have old : ∀ k, k < pos.length → k ≠ j → (l.setIfInBounds (pos.getD j 0) true).getD (pos.getD k 0) false = true → l.getD (pos.getD k 0) false = true := fun k hk hkj hl => by
    rwa [getD_set_ne false (fun e => hp k hk hkj e.symm)] at hl
  refine ⟨h.bel.trans (hb.mono h.bel.size), fun k hk hl => ?_, fun a b ha hbb hab h1 h2 => ?_⟩
  · by_cases hkj : k = j
    · subst hkj
      unfold upd
      rw [if_pos rfl]
      exact ⟨h.bel.size, Bl.new w _ _⟩
    · unfold upd
      rw [if_neg hkj]
      have h3 := h.al k hk (old k hk hkj hl)
      exact ⟨h3.1, h3.2.below hb h3.2.hi⟩
  · unfold upd
    by_cases haj : a = j
    · subst haj
      rw [if_pos rfl, if_neg (fun e => hab e.symm)]
      have h3 := (h.al b hbb (old b hbb (fun e => hab e.symm) h2)).2.hi
      omega
    · rw [if_neg haj]
      by_cases hbj : b = j
      · subst hbj
        rw [if_pos rfl]
        have h3 := (h.al a ha (old a ha haj h1)).2.hi
        omega
      · rw [if_neg hbj]
        exact h.ne a b ha hbb hab (old a ha haj h1) (old b hbb hbj h2)
end
theorem made_one (z : Value) (n : Nat) : madeCells #[z] n = (List.replicate n z).toArray := by
  rw [← toList_madeCells_one z n]
theorem made_two (a b : Value) (n : Nat) : madeCells #[a, b] (n * 2) = ((List.range n).flatMap fun _ => [a, b]).toArray := by
  apply Array.ext'
  apply List.ext_getElem?
  intro k
  have hl : ((List.range n).flatMap fun _ => [a, b]).length = n * 2 := by
    rw [List.length_flatMap]
    clear k
    induction n with
    | zero => rfl
    | succ n ih => rw [List.range_succ, List.map_append, List.sum_append, ih]; simp; omega
  rcases Nat.lt_or_ge k (n * 2) with h | h
  · have h1 := flat2_at (fun _ => [a, b]) (fun _ => rfl) n (k / 2) (k % 2) (by omega) (by omega)
    rw [show k / 2 * 2 + k % 2 = k from by omega] at h1
    show _ = ((List.range n).flatMap fun _ => [a, b])[k]?
    rw [h1]
    simp only [madeCells, Array.getElem?_toList, Array.getElem?_map, Array.getElem?_range]
    rw [if_pos h]
    rcases Nat.mod_two_eq_zero_or_one k with h2 | h2 <;> simp [h2]
  · show _ = ((List.range n).flatMap fun _ => [a, b])[k]?
    rw [List.getElem?_eq_none (by simp [madeCells]; omega), List.getElem?_eq_none (by rw [hl]; exact h)]
/-- a slice of zeros is made -/
theorem wp_make {o : Oper} {a : Act} {K : Act → World → Prop} {Q : Exit → Act → World → Prop} (w : World) (t e : TypeId) (x y : Operand) (n : Nat) (zs : List Value)
    (ho : o.op = .makeSlice t x y) (hx : a.eval x = .int .i64 (n : Int)) (hy : a.eval y = .int .i64 (n : Int))
    (hrun : (Instr.makeSlice t (.int .i64 (n : Int)) (.int .i64 (n : Int))).run Tryz.prog w = .ok (.slice (some ⟨w.heap.size, 0, none⟩) n n) (w.alloc (.cells zs.toArray e)))
    (hk : K (a.put o.dst (.slice (some ⟨w.heap.size, 0, none⟩) n n)) (w.alloc (.cells zs.toArray e))) : o.wp Tryz.prog a w K Q := by
  unfold Oper.wp execOp
  simp only [ho, Sem.run_bind, Sem.run_pure, Result.andThen_ok, hx, hy, hrun]
  exact hk
theorem run_make1 (w : World) (t e : TypeId) (z : Value) (b : Nat) (n : Nat) (ht : Tryz.prog.underlying t = some (.slice e)) (hi : (Tryz.prog.info? e).map (fun i => (i.zero, i.size, i.bytes)) = some (some z, 1, b)) (hz : z.cells = #[z]) (hn : n ≤ 1000) (hb : b ≤ 1000) :
    (Instr.makeSlice t (.int .i64 (n : Int)) (.int .i64 (n : Int))).run Tryz.prog w = .ok (.slice (some ⟨w.heap.size, 0, none⟩) n n) (w.alloc (.cells (List.replicate n z).toArray e)) := by
  have hm : b * n ≤ 1000 * 1000 := Nat.mul_le_mul hb hn
  have := run_make_row' (P := Tryz.prog) t e z b ht hi hz .i64 .i64 n (by omega) (by omega) w
  rw [made_one] at this
  exact this
theorem hist_info : (Tryz.prog.info? 57).map (fun i => (i.zero, i.size, i.bytes)) = some (some (.agg #[.slice none 0 0, .int .i64 0]), 2, 32) := by kernel_rfl
theorem run_make2 (w : World) (n : Nat) (hn : n ≤ 1000) :
    (Instr.makeSlice 50 (.int .i64 (n : Int)) (.int .i64 (n : Int))).run Tryz.prog w = .ok (.slice (some ⟨w.heap.size, 0, none⟩) n n) (w.alloc (.cells ((List.range n).flatMap fun _ => [.slice none 0 0, .int .i64 0]).toArray 57)) := by
  obtain ⟨i, hi, hz, hs, hb⟩ := info_parts hist_info
  have := run_make (P := Tryz.prog) w 50 57 i _ Tryz.underlying50 hi hz .i64 .i64 n n (by omega) (Int.le_refl _) (by rw [hb]; omega) (by omega)
  simp only [Int.toNat_natCast, hs] at this
  rw [show (Value.agg #[.slice none 0 0, .int .i64 0]).cells = #[.slice none 0 0, .int .i64 0] from rfl, made_two] at this
  exact this
end Go.Proofs.YtimhaidiclbnhaaGreat.Ver
/- Layer 46: begin: the model at the beginning. -/
set_option linter.unusedSimpArgs false
set_option linter.unusedVariables false
set_option maxRecDepth 100000
namespace Go.Proofs.YtimhaidiclbnhaaGreat.Ver
open Go.ChangeShapes Go.WideShapes Go.ChangeAt Go.RowKit
open Des (Dv De Dn DIn DBlk DAns Vi At RowOf ints DSz)
open Ara (Ar ARow)
open Con (StrRow)

theorem put_self {F : Act} {d : Nat} {v : Value} (h : F.tmps[d]? = some v) : F.put (some d) v = F := by
  obtain ⟨t, ds⟩ := F
  simp only [Act.put, Act.mk.injEq, and_true]
  refine Array.ext_getElem? (fun i => ?_)
  rw [Array.getElem?_setIfInBounds]
  by_cases hi : d = i
  · subst hi
    have hlt := (Array.getElem?_eq_some_iff.1 h).1
    rw [if_pos rfl, if_pos hlt]; exact h.symm
  · rw [if_neg hi]
theorem kput {F : Act} {d : Nat} {v : Value} {K : Act → World → Prop} {w : World} (h : F.tmps[d]? = some v) (hk : K F w) : K (F.put (some d) v) w := by rw [put_self h]; exact hk
theorem stepi_of {P : Program} {ops : Array Oper} {ι : Type} {F : ι → Act} {T : ι → Array Bool → World → Prop} {i : Nat} {o : Oper} (hg : o.guard = none)
    (h : ∀ ν l w, Closed ops l → T ν l w → l.getD i true = false → (∀ e ∈ o.after, Region.binds .any e = true → l.getD e.on false = true) → ∀ K : Act → World → Prop, (∀ ν' w', T ν' (l.setIfInBounds i true) w' → K (F ν') w') → o.wp P (F ν) w K (fun _ _ _ => False)) : StepOki P ops F T i o :=
  ⟨hg, fun ν l w h1 h2 h3 h4 => h ν l w h1 h2 h3 h4 _ fun ν' w' h5 => ⟨ν', rfl, h5⟩⟩
def updv (ν : Nat → Value) (j : Nat) (v : Value) : Nat → Value := fun k => if k = j then v else ν k
def posL : List Nat := [2, 4, 6, 8, 10, 14, 18, 22]
def lenL (n ns j : Nat) : Nat := [n, n, n, n, n, ns, ns, ns].getD j 0
def zsL (n ns : Nat) : List (List Value × TypeId) := [(List.replicate n (.string ⟨#[]⟩), 9), (List.replicate n (.int .i64 0), 3), (List.replicate n (.int .i64 0), 51), ((List.range n).flatMap fun _ => [.slice none 0 0, .int .i64 0], 57), (List.replicate n (.slice none 0 0), 22), (List.replicate ns (.slice none 0 0), 106), (List.replicate ns (.int .i64 0), 3), (List.replicate ns (.int .i64 0), 3)]
def cfgC (pl sc : Value) : List Value := [.slice none 0 0, .slice none 0 0, .int .i64 0, .int .i64 0, .int .i64 0, .int .i64 0, .int .i64 0, .int .i64 0, .int .i64 0, .int .i64 0, .slice none 0 0, .slice none 0 0, .int .i64 0, .int .i64 0, pl, .slice none 0 0, .slice none 0 0, .int .i64 0, .int .i64 0, sc, .slice none 0 0]
/-- the model of nothing, in memory -/
def mzC (pl sc : Value) (n ns : Nat) (β : Nat → Nat) : List Value := cfgC pl sc ++ [fx (β 0) n, fx (β 1) n, fx (β 2) n, .slice none 0 0, .slice none 0 0, fx (β 5) ns, fx (β 3) n, fx (β 4) n, fx (β 6) ns, fx (β 7) ns, .int .i64 0]
structure BgS (W1 : World) (pl sc : Value) (n ns : Nat) (ν : Nat → Value) (β : Nat → Nat) (l : Array Bool) (w : World) : Prop where
  mks : Mks W1 posL (zsL n ns) β l w
  v : ∀ j, j < 8 → l.getD (posL.getD j 0) false = true → ν j = .slice (some ⟨β j, 0, none⟩) (lenL n ns j) (lenL n ns j)
  bd : l.getD 23 false = true → (∀ j, j < 8 → l.getD (posL.getD j 0) false = true) ∧ ν 8 = .agg (mzC pl sc n ns β).toArray
  bx : l.getD 24 false = true → l.getD 23 false = true ∧ ν 9 = .pointer (some ⟨β 8, 0, none⟩) ∧ W1.heap.size ≤ β 8 ∧ Bl w (β 8) (mzC pl sc n ns β) 86 ∧ ∀ j, j < 8 → β j ≠ β 8
  la : l.getD 25 false = true → l.getD 24 false = true ∧ ν 10 = ν 9
def BgT (W1 : World) (pl sc : Value) (n ns : Nat) (ν : Nat → Value) (l : Array Bool) (w : World) : Prop := ∃ β, BgS W1 pl sc n ns ν β l w
theorem getD_rep (k i : Nat) : (Array.replicate k false).getD i false = false := by
  simp [Array.getD]
theorem ff {b : Bool} {a : Array Bool} {i : Nat} (h : a.getD i true = false) (h2 : a.getD i false = true) : False := by
  rcases Nat.lt_or_ge i a.size with h3 | h3
  · simp [h3] at h h2; rw [h] at h2; cases h2
  · simp [Array.getElem?_eq_none h3] at h
section
variable {W1 w : World} {pl sc : Value} {n ns : Nat} {ν : Nat → Value} {l : Array Bool}
theorem pos_le (j : Nat) (hj : j < 8) : posL.getD j 0 ≤ 22 := by
  rcases j with _ | _ | _ | _ | _ | _ | _ | _ | j <;> first | omega | decide
theorem pos_ne (k j : Nat) (hk : k < 8) (hj : j < 8) (h : k ≠ j) : posL.getD k 0 ≠ posL.getD j 0 := by
  have : ∀ k : Fin 8, ∀ j : Fin 8, k ≠ j → posL.getD k.1 0 ≠ posL.getD j.1 0 := by decide
  exact this ⟨k, hk⟩ ⟨j, hj⟩ (fun e => h (congrArg Fin.val e))
theorem BgT.start : BgT W1 pl sc n ns ν (Array.replicate 26 false) W1.drew := by
  refine ⟨fun _ => 0, ⟨(Below.refl _ _).drew, fun j _ h => ?_, fun i j _ _ _ h => ?_⟩, fun j _ h => ?_, fun h => ?_, fun h => ?_, fun h => ?_⟩
  all_goals rw [getD_rep] at h; cases h
theorem BgT.bel (h : BgT W1 pl sc n ns ν l w) : Below W1.heap.size W1 w := by obtain ⟨β, h⟩ := h; exact h.mks.bel
theorem BgT.pure (h : BgT W1 pl sc n ns ν l w) (i : Nat) (hi : ∀ j, j < 8 → posL.getD j 0 ≠ i) (h23 : i ≠ 23) (h24 : i ≠ 24) (h25 : i ≠ 25) : BgT W1 pl sc n ns ν (l.setIfInBounds i true) w := by
  obtain ⟨β, h⟩ := h
  refine ⟨β, h.mks.pure hi, fun j hj hl => h.v j hj (by rwa [getD_set_ne false (fun e => hi j hj e.symm)] at hl), fun hl => ?_, fun hl => ?_, fun hl => ?_⟩
  · rw [getD_set_ne false h23] at hl
    exact ⟨fun j hj => by rw [getD_set_ne false (fun e => hi j hj e.symm)]; exact (h.bd hl).1 j hj, (h.bd hl).2⟩
  · rw [getD_set_ne false h24] at hl
    rw [getD_set_ne false h23]
    exact h.bx hl
  · rw [getD_set_ne false h25] at hl
    rw [getD_set_ne false h24]
    exact h.la hl
theorem BgT.make {j : Nat} (h : BgT W1 pl sc n ns ν l w) (hj : j < 8) (hun : l.getD (posL.getD j 0) true = false) {m : Nat} (hm : lenL n ns j = m) : BgT W1 pl sc n ns (updv ν j (.slice (some ⟨w.heap.size, 0, none⟩) m m)) (l.setIfInBounds (posL.getD j 0) true) (w.alloc (.cells ((zsL n ns).getD j ([], 0)).1.toArray ((zsL n ns).getD j ([], 0)).2)) := by
  obtain ⟨β, h⟩ := h
  have h23 : ¬ l.getD 23 false = true := fun hl => ff (b := true) hun ((h.bd hl).1 j hj)
  have hp := pos_le j hj
  refine ⟨upd β j w.heap.size, h.mks.make hj fun k hk hkj => pos_ne k j hk hj hkj, fun k hk hl => ?_, fun hl => ?_, fun hl => ?_, fun hl => ?_⟩
  · by_cases e : k = j
    · subst e; simp only [updv, upd, if_true, hm]
    · rw [getD_set_ne false (fun e2 => pos_ne k j hk hj e e2.symm)] at hl
      simp only [updv, upd, if_neg e]
      exact h.v k hk hl
  · rw [getD_set_ne false (by omega)] at hl; exact absurd hl h23
  · rw [getD_set_ne false (by omega)] at hl; exact absurd (h.bx hl).1 h23
  · rw [getD_set_ne false (by omega)] at hl; exact absurd (h.bx (h.la hl).1).1 h23
theorem BgT.build (h : BgT W1 pl sc n ns ν l w) (hall : ∀ j, j < 8 → l.getD (posL.getD j 0) false = true) (hun : l.getD 23 true = false) : ∃ β : Nat → Nat, (∀ j, j < 8 → ν j = .slice (some ⟨β j, 0, none⟩) (lenL n ns j) (lenL n ns j)) ∧ BgT W1 pl sc n ns (updv ν 8 (.agg (mzC pl sc n ns β).toArray)) (l.setIfInBounds 23 true) w := by
  obtain ⟨β, h⟩ := h
  have h24 : ¬ l.getD 24 false = true := fun hl => ff (b := true) hun (h.bx hl).1
  refine ⟨β, fun j hj => h.v j hj (hall j hj), β, h.mks.pure (fun j hj e => by have := pos_le j hj; omega), fun j hj _ => ?_, fun _ => ⟨fun j hj => getD_set_true (hall j hj), by simp [updv]⟩, fun hl => ?_, fun hl => ?_⟩
  · simp only [updv, if_neg (by omega : ¬ j = 8)]
    exact h.v j hj (hall j hj)
  · rw [getD_set_ne false (by omega)] at hl; exact absurd hl h24
  · rw [getD_set_ne false (by omega)] at hl; exact absurd (h.la hl).1 h24
theorem BgT.box (h : BgT W1 pl sc n ns ν l w) (h23 : l.getD 23 false = true) (hun : l.getD 24 true = false) : ∃ β : Nat → Nat, ν 8 = .agg (mzC pl sc n ns β).toArray ∧ BgT W1 pl sc n ns (updv ν 9 (.pointer (some ⟨w.heap.size, 0, none⟩))) (l.setIfInBounds 24 true) (w.alloc (.cells (mzC pl sc n ns β).toArray 86)) := by
  obtain ⟨β, h⟩ := h
  obtain ⟨hall, h8⟩ := h.bd h23
  have h24 : ¬ l.getD 24 false = true := fun hl => ff (b := true) hun hl
  have hb : Below w.heap.size w (w.alloc (.cells (mzC pl sc n ns β).toArray 86)) := (Below.refl _ _).alloc (Nat.le_refl _) _
  have hu : ∀ j, j < 8 → upd β 8 w.heap.size j = β j := fun j hj => if_neg (by omega)
  have hl8 : posL.length = 8 := rfl
  refine ⟨β, h8, upd β 8 w.heap.size, ⟨h.mks.bel.trans (hb.mono h.mks.bel.size), fun j hj _ => ?_, fun i j hi hj hij _ _ => ?_⟩, fun j hj _ => ?_, fun _ => ⟨fun j hj => getD_set_true (hall j hj), ?_⟩, fun _ => ⟨getD_set_true h23, ?_, ?_, ?_, fun j hj => ?_⟩, fun hl => ?_⟩
  · rw [hu j hj]
    have h3 := h.mks.al j hj (hall j hj)
    exact ⟨h3.1, h3.2.below hb h3.2.hi⟩
  · rw [hu i hi, hu j hj]
    exact h.mks.ne i j hi hj hij (hall i hi) (hall j hj)
  · rw [hu j hj]
    simp only [updv, if_neg (by omega : ¬ j = 9)]
    exact h.v j hj (hall j hj)
  · simp only [updv, if_neg (by omega : ¬ (8 : Nat) = 9)]
    exact h8
  · simp [updv, upd]
  · simp only [upd, if_true]; exact h.mks.bel.size
  · simp only [upd, if_true]; exact Bl.new w _ _
  · rw [hu j hj]
    simp only [upd, if_true]
    have := (h.mks.al j hj (hall j hj)).2.hi
    omega
  · rw [getD_set_ne false (by omega)] at hl; exact absurd (h.la hl).1 h24
theorem BgT.last (h : BgT W1 pl sc n ns ν l w) (h24 : l.getD 24 false = true) : BgT W1 pl sc n ns (updv ν 10 (ν 9)) (l.setIfInBounds 25 true) w := by
  obtain ⟨β, h⟩ := h
  refine ⟨β, h.mks.pure (fun j hj e => by have := pos_le j hj; omega), fun j hj hl => ?_, fun hl => ?_, fun hl => ?_, fun _ => ⟨getD_set_true h24, by simp [updv]⟩⟩
  · rw [getD_set_ne false (by have := pos_le j hj; omega)] at hl
    simp only [updv, if_neg (by omega : ¬ j = 10)]
    exact h.v j hj hl
  · rw [getD_set_ne false (by omega)] at hl
    exact ⟨fun j hj => getD_set_true ((h.bd hl).1 j hj), (h.bd hl).2⟩
  · rw [getD_set_ne false (by omega)] at hl
    have h1 := h.bx hl
    exact ⟨getD_set_true h1.1, h1.2⟩
end
end Go.Proofs.YtimhaidiclbnhaaGreat.Ver
