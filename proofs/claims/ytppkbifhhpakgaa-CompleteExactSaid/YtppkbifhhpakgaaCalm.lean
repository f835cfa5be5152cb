/- A region that draws its order, each operation looked at once. -/
import Derived.Test.YtppkbifhhpakgaaRows
import Derived.Orders
import Derived.Tactics
namespace Go.Proofs.Ytppkbifhhpakgaa
open Go

/-- a agrees with F wherever all that write there have come up -/
structure Near (ops : Array Oper) (F : Act) (l : Array Bool) (a : Act) : Prop where
  size : a.tmps.size = F.tmps.size
  defers : a.defers = F.defers
  same : ∀ t, (∀ j o, ops[j]? = some o → o.dst = some t → l.getD j false = true) → a.tmps.getD t undef = F.tmps.getD t undef
/-- each operation waits for those whose results it looks at; it waits for earlier ones alone; none selects -/
def calmOk (ops : Array Oper) : Bool :=
  Region.noSelect ops && (List.range ops.size).all fun i => match ops[i]? with
    | some o => (o.looksAt ops).all (fun t => (List.range ops.size).all fun j => match ops[j]? with
        | some p => p.dst != some t || o.after.any (fun e => Region.binds .any e && e.on == j)
        | none => true) && o.after.all (fun e => decide (e.on < i))
    | none => true
theorem calm_spec {ops : Array Oper} (h : calmOk ops = true) {i : Nat} {o : Oper} (hi : ops[i]? = some o) :
    (∀ t ∈ o.looksAt ops, ∀ j p, ops[j]? = some p → p.dst = some t → ∃ e ∈ o.after, Region.binds .any e = true ∧ e.on = j) ∧ ∀ e ∈ o.after, e.on < i := by
  unfold calmOk at h
  simp only [Bool.and_eq_true, List.all_eq_true, List.mem_range] at h
  have hlt : i < ops.size := (Array.getElem?_eq_some_iff.1 hi).1
  have h1 := h.2 i hlt
  rw [hi] at h1
  simp only [Bool.and_eq_true, List.all_eq_true, List.mem_range, Array.all_eq_true_iff_forall_mem, decide_eq_true_eq] at h1
  refine ⟨fun t ht j p hj hd => ?_, h1.2⟩
  have h2 := h1.1 t ht j (Array.getElem?_eq_some_iff.1 hj).1
  rw [hj] at h2
  simp only [hd, bne_self_eq_false, Bool.false_or, Array.any_eq_true] at h2
  obtain ⟨k, hk, h3⟩ := h2
  simp only [Bool.and_eq_true, beq_iff_eq] at h3
  exact ⟨_, Array.getElem_mem hk, h3.1, h3.2⟩
theorem calm_noSelect {ops : Array Oper} (h : calmOk ops = true) : Region.noSelect ops = true := by
  unfold calmOk at h; simp only [Bool.and_eq_true] at h; exact h.1
section
variable {P : Program} {ops : Array Oper} {F : Act} {l : Array Bool} {a : Act} {i : Nat} {o : Oper}
theorem Near.looks (hn : Near ops F l a) (hc : calmOk ops = true) (hi : ops[i]? = some o) (hr : ∀ e ∈ o.after, Region.binds .any e = true → l.getD e.on false = true) :
    ∀ t ∈ o.looksAt ops, a.tmps.getD t undef = F.tmps.getD t undef := by
  intro t ht
  refine hn.same t (fun j p hj hd => ?_)
  obtain ⟨e, he, hb, rfl⟩ := (calm_spec hc hi).1 t ht j p hj hd
  exact hr e he hb
theorem Near.exec (hn : Near ops F l a) (hc : calmOk ops = true) (hi : ops[i]? = some o) (hr : ∀ e ∈ o.after, Region.binds .any e = true → l.getD e.on false = true) :
    execOp a.eval o = execOp F.eval o :=
  execOp_congr o (fun cs b => Region.noSelect_spec (calm_noSelect hc) i o cs b hi) fun x hx => by
    cases x with
    | tmp t => exact hn.looks hc hi hr t (List.mem_append_left _ (List.mem_filterMap.2 ⟨.tmp t, by simpa using hx, rfl⟩))
    | _ => rfl
theorem getElem_of_getD {xs ys : Array Value} (hs : xs.size = ys.size) {t : Nat} (h : xs.getD t undef = ys.getD t undef) : xs[t]? = ys[t]? := by
  rcases Nat.lt_or_ge t xs.size with h1 | h1
  · have h2 : t < ys.size := by omega
    simp [h1, h2] at h ⊢; exact h
  · rw [Array.getElem?_eq_none h1, Array.getElem?_eq_none (by omega)]
theorem Near.wants (hn : Near ops F l a) (hc : calmOk ops = true) (hi : ops[i]? = some o) (hr : ∀ e ∈ o.after, Region.binds .any e = true → l.getD e.on false = true) :
    Region.wanted o (yielded ops a.tmps) = Region.wanted o (yielded ops F.tmps) := by
  unfold Region.wanted
  cases hg : o.guard with
  | none => rfl
  | some gw =>
    obtain ⟨g, want⟩ := gw
    have hy : yielded ops a.tmps g = yielded ops F.tmps g := by
      unfold yielded
      cases ht : (ops[g]?).bind (·.dst) with
      | none => rfl
      | some t =>
        have := hn.looks hc hi hr t (by simp [Oper.looksAt, hg, ht])
        simp only [Option.bind_some, getElem_of_getD hn.size this]
    simp only [hy]
theorem put_size (a : Act) (d : Option Tmp) (v : Value) : (a.put d v).tmps.size = a.tmps.size := by
  cases d <;> simp [Act.put]
theorem put_defers' (a : Act) (d : Option Tmp) (v : Value) : (a.put d v).defers = a.defers := by
  cases d <;> rfl
theorem put_other (a : Act) {d : Option Tmp} (v : Value) {t : Nat} (h : d ≠ some t) : (a.put d v).tmps.getD t undef = a.tmps.getD t undef := by
  cases d with
  | none => rfl
  | some d =>
    have hne : d ≠ t := fun e => h (e ▸ rfl)
    simp [Act.put, Array.getElem?_setIfInBounds_ne hne]
theorem put_same (a F : Act) (hs : a.tmps.size = F.tmps.size) (t : Nat) (v : Value) (h : F.put (some t) v = F) : (a.put (some t) v).tmps.getD t undef = F.tmps.getD t undef := by
  have h1 : (F.put (some t) v).tmps.getD t undef = F.tmps.getD t undef := by rw [h]
  rw [← h1]
  rcases Nat.lt_or_ge t a.tmps.size with h2 | h2
  · have h3 : t < F.tmps.size := by omega
    simp [Act.put, h2, h3]
  · have h3 : F.tmps.size ≤ t := by omega
    simp [Act.put]
    rw [if_neg (by omega), if_neg (by omega)]
theorem Near.put (hn : Near ops F l a) (hi : ops[i]? = some o) (v : Value) (hv : F.put o.dst v = F) : Near ops F (l.setIfInBounds i true) (a.put o.dst v) := by
  refine ⟨(put_size _ _ _).trans hn.size, (put_defers' _ _ _).trans hn.defers, fun t ht => ?_⟩
  by_cases hd : o.dst = some t
  · rw [hd] at hv ⊢
    exact put_same a F hn.size t v hv
  · rw [put_other _ _ hd]
    refine hn.same t (fun j p hj hdj => ?_)
    have h1 := ht j p hj hdj
    have hne : i ≠ j := fun e => by
      subst e; rw [hi] at hj; cases hj; exact hd hdj
    rwa [getD_set_ne false hne] at h1
/-- all that has come up has come behind what it waits for -/
def Closed (ops : Array Oper) (l : Array Bool) : Prop := ∀ j o, ops[j]? = some o → l.getD j false = true → ∀ e ∈ o.after, Region.binds .any e = true → l.getD e.on false = true
theorem wp_near {K : Act → World → Prop} {Q : Exit → Act → World → Prop} {w : World} {T : World → Prop} (he : execOp a.eval o = execOp F.eval o)
    (h : o.wp P F w (fun a' w' => a' = F ∧ T w') (fun _ _ _ => False)) (hd : F.defers.length = a.defers.length)
    (hK : ∀ v w', F.put o.dst v = F → T w' → K (a.put o.dst v) w') : o.wp P a w K Q := by
  unfold Oper.wp at *
  rw [he]
  generalize (execOp F.eval o).run P w = r at *
  cases r with
  | ok n w' =>
    cases n <;> simp only [Oper.upon] at h ⊢
    case value v => exact hK _ _ h.1 h.2
    case skip => exact hK _ _ h.1 h.2
    case defer d =>
      have := congrArg (fun x : Act => x.defers.length) h.1
      simp only [put_defers'] at this
      simp at this
    case enter f args =>
      refine Calls.mono h (fun e w'' he => ?_)
      cases e with
      | returned v => exact hK _ _ he.1 he.2
      | panicked c => exact he.elim
      | outgrown => obtain ⟨_, _, hf⟩ := he; exact hf.elim
    case row row args => exact Rows.mono h (fun v w'' he => hK _ _ he.1 he.2)
    all_goals exact h
  | halt x w' => cases x <;> simp only [Oper.upon] at h ⊢ <;> exact h.elim
/-- what is asked of operation i -/
def StepOk (P : Program) (ops : Array Oper) (F : Act) (T : Array Bool → World → Prop) (i : Nat) (o : Oper) : Prop :=
  ∀ l w, Closed ops l → T l w → l.getD i true = false → (∀ e ∈ o.after, Region.binds .any e = true → l.getD e.on false = true) →
    (Region.wanted o (yielded ops F.tmps) = true → o.wp P F w (fun a' w' => a' = F ∧ T (l.setIfInBounds i true) w') (fun _ _ _ => False)) ∧
    (Region.wanted o (yielded ops F.tmps) = false → F.put o.dst undef = F ∧ T (l.setIfInBounds i true) w)
def StepsOk (P : Program) (ops : Array Oper) (F : Act) (T : Array Bool → World → Prop) : Nat → List Oper → Prop
  | _, [] => True
  | i, o :: os => StepOk P ops F T i o ∧ StepsOk P ops F T (i + 1) os
theorem StepsOk.at {T : Array Bool → World → Prop} : ∀ {os : List Oper} {k i : Nat} {o : Oper}, StepsOk P ops F T k os → os[i]? = some o → StepOk P ops F T (k + i) o
  | [], _, _, _, _, h => by simp at h
  | x :: os, k, 0, o, hs, h => by simp at h; subst h; exact hs.1
  | x :: os, k, i + 1, o, hs, h => by
    have := StepsOk.at hs.2 (i := i) (by simpa using h)
    rwa [show k + 1 + i = k + (i + 1) from by omega] at this
/-- how many operations have not come up -/
def unlisted (l : Array Bool) : Nat := (l.toList.filter (fun b => !b)).length
theorem unlisted_set {l : Array Bool} {i : Nat} (h : l.getD i true = false) : unlisted (l.setIfInBounds i true) < unlisted l := by
  unfold unlisted
  have hi : i < l.size := by
    rcases Nat.lt_or_ge i l.size with h' | h'
    · exact h'
    · simp [Array.getElem?_eq_none h'] at h
  have hv : l.toList[i]? = some false := by
    simp [hi] at h; simp [hi, h]
  rw [Array.toList_setIfInBounds]
  generalize l.toList = L at hv
  clear h hi
  induction L generalizing i with
  | nil => simp at hv
  | cons b r ih =>
    cases i with
    | zero => simp at hv; subst hv; simp
    | succ i =>
      have := ih (i := i) (by simpa using hv)
      cases b <;> simp <;> omega
theorem all_up (hc : calmOk ops = true) (hl : l.size = ops.size) (hr : Region.ready .any ops l = []) : ∀ j, j < ops.size → l.getD j false = true := by
  intro j
  induction j using Nat.strongRecOn with
  | _ j ih =>
    intro hj
    cases hb : l.getD j false with
    | true => rfl
    | false =>
      have hmem : j ∈ Region.ready .any ops l := by
        refine mem_ready.2 ⟨?_, ops[j], Array.getElem?_eq_getElem hj, fun e he _ => ?_⟩
        · have hjl : j < l.size := by omega
          simp [hjl] at hb ⊢; exact hb
        · have := (calm_spec hc (Array.getElem?_eq_getElem hj)).2 e he
          exact ih e.on this (by omega)
      rw [hr] at hmem; cases hmem
theorem any_calm {Q : Exit → Act → World → Prop} (T : Array Bool → World → Prop) (hc : calmOk ops = true) (hs : StepsOk P ops F T 0 ops.toList)
    (fin : ∀ l w, T l w → (∀ j, j < ops.size → l.getD j false = true) → Q .normal F w) :
    ∀ (fuel : Nat) (l : Array Bool) (a : Act) (w : World), unlisted l ≤ fuel → l.size = ops.size → Closed ops l → Near ops F l a → T l w → wpAny P .any ops Q fuel l a w := by
  have done : ∀ (l : Array Bool) (a : Act) (w : World), l.size = ops.size → Near ops F l a → T l w → Region.ready .any ops l = [] → Q .normal a w := by
    intro l a w hl hn hT hr
    have hall := all_up hc hl hr
    have e : a = F := by
      obtain ⟨t1, d1⟩ := a
      obtain ⟨t2, d2⟩ := F
      have h1 : t1 = t2 := by
        refine Array.ext hn.size (fun t h1 h2 => ?_)
        have := getElem_of_getD hn.size (hn.same t (fun j o hj _ => hall j (Array.getElem?_eq_some_iff.1 hj).1))
        simpa [h1, h2] using this
      have h2 : d1 = d2 := hn.defers
      rw [h1, h2]
    rw [e]; exact fin l w hT hall
  intro fuel
  induction fuel with
  | zero =>
    intro l a w hf hl hcl hn hT
    have hr : Region.ready .any ops l = [] := by
      cases h : Region.ready .any ops l with
      | nil => rfl
      | cons i r =>
        have hi : i ∈ Region.ready .any ops l := by rw [h]; simp
        have := unlisted_set (mem_ready.1 hi).1
        omega
    exact ⟨hr, done l a w hl hn hT hr⟩
  | succ fuel ih =>
    intro l a w hf hl hcl hn hT
    refine ⟨done l a w hl hn hT, fun i hi => ?_⟩
    obtain ⟨hun, o, ho, hafter⟩ := mem_ready.1 hi
    have hst := StepsOk.at hs (i := i) (o := o) (by simpa using ho)
    rw [Nat.zero_add] at hst
    obtain ⟨s1, s2⟩ := hst l w hcl hT hun hafter
    have hcl' : Closed ops (l.setIfInBounds i true) := by
      intro j p hj hjl e he hb
      by_cases hji : j = i
      · subst hji; rw [ho] at hj; cases hj; exact getD_set_true (hafter e he hb)
      · rw [getD_set_ne false (Ne.symm hji)] at hjl
        exact getD_set_true (hcl j p hj hjl e he hb)
    have next : ∀ v w', F.put o.dst v = F → T (l.setIfInBounds i true) w' → wpAny P .any ops Q fuel (l.setIfInBounds i true) (a.put o.dst v) w' := fun v w' hv hT' =>
      ih _ _ _ (by have := unlisted_set hun; omega) (by simpa using hl) hcl' (hn.put ho v hv) hT'
    unfold wpOp
    simp only [ho]
    rw [hn.wants hc ho hafter]
    cases hw : Region.wanted o (yielded ops F.tmps) with
    | true =>
      rw [if_pos rfl]
      exact Or.inl (wp_near (hn.exec hc ho hafter) (s1 hw) (by rw [hn.defers]) next)
    | false =>
      rw [if_neg (by simp)]
      obtain ⟨h1, h2⟩ := s2 hw
      exact next _ _ h1 h2
/-- the frame with all that the operations yield -/
def putAll : List Oper → List Value → Act → Act
  | o :: os, v :: vs, a => putAll os vs (a.put o.dst v)
  | _, _, a => a
theorem putAll_same : ∀ (os : List Oper) (vs : List Value) (a : Act), (putAll os vs a).tmps.size = a.tmps.size ∧ (putAll os vs a).defers = a.defers ∧ ∀ t, (∀ o ∈ os, o.dst ≠ some t) → (putAll os vs a).tmps.getD t undef = a.tmps.getD t undef
  | [], _, a => ⟨rfl, rfl, fun _ _ => rfl⟩
  | o :: os, [], a => ⟨rfl, rfl, fun _ _ => rfl⟩
  | o :: os, v :: vs, a => by
    obtain ⟨h1, h2, h3⟩ := putAll_same os vs (a.put o.dst v)
    refine ⟨h1.trans (put_size _ _ _), h2.trans (put_defers' _ _ _), fun t ht => ?_⟩
    exact (h3 t (fun p hp => ht p (by simp [hp]))).trans (put_other _ _ (ht o (by simp)))
theorem region_calm {os : List Oper} {Q : Exit → Act → World → Prop} {id : Nat} {A : Act} {W : World} (T : Array Bool → World → Prop) (vals : List Value) (hm : P.follows .mixedOrders = true) (hc : calmOk os.toArray = true)
    (hF : putAll os vals A = F) (h0 : T (Array.replicate os.length false) W.drew) (hs : StepsOk P os.toArray F T 0 os)
    (fin : ∀ l w, T l w → (∀ j, j < os.length → l.getD j false = true) → Q .normal F w) : (Code.region id os.toArray true).wp P Q A W := by
  subst hF
  have hs : StepsOk P os.toArray (putAll os vals A) T 0 os.toArray.toList := by simpa using hs
  have h0 : T (Array.replicate os.toArray.size false) W.drew := by simpa using h0
  have fin : ∀ l w, T l w → (∀ j, j < os.toArray.size → l.getD j false = true) → Q .normal (putAll os vals A) w := fun l w hT h => fin l w hT (fun j hj => h j (by simpa using hj))
  have e : os = os.toArray.toList := by simp
  generalize os.toArray = ops at *
  subst e
  obtain ⟨h1, h2, h3⟩ := putAll_same ops.toList vals A
  refine wp_region_any hm (any_calm T hc hs fin _ _ _ _ (by simp [unlisted, Array.toList_replicate]) (by simp) ?_ ⟨h1.symm, h2.symm, fun t ht => ?_⟩ h0)
  · intro j o hj hl
    have hlt : j < ops.size := (Array.getElem?_eq_some_iff.1 hj).1
    simp [hlt] at hl
  · refine (h3 t (fun o ho hd => ?_)).symm
    obtain ⟨j, hj, rfl⟩ := List.mem_iff_getElem.1 ho
    have := ht j _ (by simp) hd
    have hlt : j < ops.size := by simpa using hj
    simp [hlt] at this
theorem steps_nil {T : Array Bool → World → Prop} {i : Nat} : StepsOk P ops F T i [] := True.intro
theorem steps_cons {T : Array Bool → World → Prop} {i : Nat} {o : Oper} {os : List Oper} (h : StepOk P ops F T i o) (hs : StepsOk P ops F T (i + 1) os) : StepsOk P ops F T i (o :: os) := ⟨h, hs⟩
def waits (ops : Array Oper) (s i : Nat) : Bool := match ops[s]? with
  | some o => o.after.any fun e => Region.binds .any e && e.on == i
  | none => false
theorem not_yet {s : Nat} (hcl : Closed ops l) (hw : waits ops s i = true) (hun : l.getD i true = false) : l.getD s false = false := by
  cases hb : l.getD s false with
  | false => rfl
  | true =>
    unfold waits at hw
    cases ho : ops[s]? with
    | none => rw [ho] at hw; cases hw
    | some o =>
      rw [ho] at hw
      simp only [Array.any_eq_true, Bool.and_eq_true, beq_iff_eq] at hw
      obtain ⟨k, hk, h1, h2⟩ := hw
      have := hcl s o ho hb _ (Array.getElem_mem hk) h1
      rw [h2] at this
      rcases Nat.lt_or_ge i l.size with h3 | h3
      · simp [h3] at this hun; rw [hun] at this; cases this
      · simp [Array.getElem?_eq_none h3] at this
end
/-- A REGION THAT DRAWS ITS ORDER, by an invariant over what has come up. -/
theorem any_sweep {P : Program} {ops : Array Oper} {Q : Exit → Act → World → Prop} {md : Region.Mode} (J : Array Bool → Act → World → Prop)
    (step : ∀ l a w i, J l a w → i ∈ Region.ready md ops l → ∀ K : Act → World → Prop, (∀ a' w', J (l.setIfInBounds i true) a' w' → K a' w') → wpOp P ops Q i K a w)
    (fin : ∀ l a w, J l a w → Region.ready md ops l = [] → Q .normal a w) :
    ∀ (fuel : Nat) (l : Array Bool) (a : Act) (w : World), unlisted l ≤ fuel → J l a w → wpAny P md ops Q fuel l a w
  | 0, l, a, w, hf, hJ => by
    have hr : Region.ready md ops l = [] := by
      cases h : Region.ready md ops l with
      | nil => rfl
      | cons i r =>
        have hi : i ∈ Region.ready md ops l := by rw [h]; simp
        have := unlisted_set (mem_ready.1 hi).1
        omega
    exact ⟨hr, fin l a w hJ hr⟩
  | fuel + 1, l, a, w, hf, hJ =>
    ⟨fin l a w hJ, fun i hi => step l a w i hJ hi _ (fun a' w' hJ' => any_sweep J step fin fuel _ a' w' (by have := unlisted_set (mem_ready.1 hi).1; omega) hJ')⟩
theorem region_sweep {P : Program} {ops : Array Oper} {Q : Exit → Act → World → Prop} {id : Nat} {A : Act} {W : World} (J : Act → Array Bool → Act → World → Prop) (hm : P.follows .mixedOrders = true)
    (h0 : J A (Array.replicate ops.size false) A W.drew)
    (step : ∀ l a w i, J A l a w → i ∈ Region.ready .any ops l → ∀ K : Act → World → Prop, (∀ a' w', J A (l.setIfInBounds i true) a' w' → K a' w') → wpOp P ops Q i K a w)
    (fin : ∀ l a w, J A l a w → Region.ready .any ops l = [] → Q .normal a w) : (Code.region id ops true).wp P Q A W :=
  wp_region_any hm (any_sweep (J A) step fin _ _ _ _ (by simp [unlisted, Array.toList_replicate]) h0)
end Go.Proofs.Ytppkbifhhpakgaa
