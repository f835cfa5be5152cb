/- Maps of entries: their keys are a process and a page. -/
import Derived.Test.YtodonnagmgbliaaMp
import Derived.Maps.RangeWalk
import Derived.DeepKeys4
namespace Go.Proofs.Ytodonnagmgbliaa
open Go.ChangeShapes Go.WideShapes Go.ChangeAt Go.RowKit
open Go.ChangeMaps (setBlock heap_setBlock_same heap_setBlock_other)

theorem keyed48 : Go.Maps.Keyed Try.prog 48 := Go.Maps.Keyed.of_law (Go.deep_law_laid (m := 3) (by kernel_rfl) (by omega) (of_decide_eq_true (by kernel_rfl : decide (48 < Try.prog.types.size) = true)) (by kernel_rfl) (by kernel_rfl))
def keyV (e : Ar) : Value := .agg #[.int .i64 e.pr, .int .i64 e.pa]
def KeyOK (e : Ar) : Prop := 0 ≤ e.pr ∧ e.pr < 100 ∧ 0 ≤ e.pa ∧ e.pa < 100
theorem keyOK_right {e : Ar} (h : rightB e = true) : KeyOK e := by
  have := rightB_iff.1 h
  unfold KeyOK; omega
theorem keyOf_V {e : Ar} (h : KeyOK e) : ∃ l, keyOf Try.prog 48 (keyV e) = some l := by
  obtain ⟨h1, h2, h3, h4⟩ := h
  have hk : Try.prog.keyType 48 = true := by kernel_rfl
  have hc : Try.prog.cellsOf 48 = 2 := by kernel_rfl
  have hc3 : Try.prog.cellsOf 3 = 1 := by kernel_rfl
  have hts : ∃ n, Try.prog.types.size = n + 1 := ⟨83, by kernel_rfl⟩
  obtain ⟨n, hn⟩ := hts
  have m1 : IntKind.i64.min = -9223372036854775808 := rfl
  have m2 : IntKind.i64.max = 9223372036854775807 := rfl
  have hw1 : (Lit.int .i64 e.pr).wf = true := by simp [Lit.wf, m1, m2]; omega
  have hw2 : (Lit.int .i64 e.pa).wf = true := by simp [Lit.wf, m1, m2]; omega
  simp [keyOf, Try.underlying48, keyV, hk, hn, Program.keyLits, Value.cells, hc, hc3, Try.underlying3, hw1, hw2, Value.formed, List.range_succ]
theorem keyV_inj {e f : Ar} (h : keyV e = keyV f) : e.pr = f.pr ∧ e.pa = f.pa := by
  unfold keyV at h
  simpa using h
structure EntsOf (es : Array MapEntry) (E : List Ar) (clock : Nat) : Prop where
  ent : es.toList.map (fun x => (x.key, x.val)) = E.map (fun e => (keyV e, arVal e))
  nd : (es.toList.map (·.born)).Nodup
  old : ∀ x ∈ es.toList, x.born < clock
theorem EntsOf.len {es : Array MapEntry} {E : List Ar} {c : Nat} (h : EntsOf es E c) : es.toList.length = E.length := by
  have := congrArg List.length h.ent
  simpa using this
theorem EntsOf.at {es : Array MapEntry} {E : List Ar} {c j : Nat} {x : MapEntry} (h : EntsOf es E c) (hx : es.toList[j]? = some x) : j < E.length ∧ x.key = keyV (E.getD j Ar.zero) ∧ x.val = arVal (E.getD j Ar.zero) := by
  have hj : j < es.toList.length := (List.getElem?_eq_some_iff.1 hx).1
  have hj2 : j < E.length := by rw [← h.len]; exact hj
  have h1 : (es.toList.map (fun x => (x.key, x.val)))[j]? = (E.map (fun e => (keyV e, arVal e)))[j]? := by rw [h.ent]
  rw [List.getElem?_map, hx, List.getElem?_map, List.getElem?_eq_getElem hj2] at h1
  rw [getD_get hj2]
  have h2 : (x.key, x.val) = (keyV E[j], arVal E[j]) := by simpa using h1
  simp only [Prod.mk.injEq] at h2
  exact ⟨hj2, h2⟩
/-- block mb is a map that holds just the entries E -/
def MapIs (W : World) (mb : Nat) (E : List Ar) : Prop := ∃ es clock, W.heap[mb]? = some (.map es clock) ∧ EntsOf es E clock
theorem MapIs.lt {W : World} {mb : Nat} {E : List Ar} (h : MapIs W mb E) : mb < W.heap.size := by
  obtain ⟨es, c, h, _⟩ := h
  exact (Array.getElem?_eq_some_iff.1 h).1
theorem MapIs.same {W W' : World} {mb : Nat} {E : List Ar} (h : MapIs W mb E) (hb : W'.heap[mb]? = W.heap[mb]?) : MapIs W' mb E := by
  obtain ⟨es, c, h1, h2⟩ := h
  exact ⟨es, c, hb.trans h1, h2⟩
theorem MapIs.below {W W' : World} {mb : Nat} {E : List Ar} (h : MapIs W mb E) (hb : Below W.heap.size W W') : MapIs W' mb E := h.same (hb.block mb h.lt)
theorem MapIs.new (W : World) : MapIs (W.alloc (.map #[] 0)) W.heap.size [] := ⟨#[], 0, Go.heap_alloc_new W _, rfl, by simp, by simp⟩
theorem tick_set {W : World} {b : Nat} {es : Array MapEntry} {c : Nat} (h : W.heap[b]? = some (.map es c)) (o : Obj) : Tick b W (setBlock W b o) :=
  ⟨rfl, rfl, rfl, by simp [setBlock], fun k hk => heap_setBlock_other h o hk⟩
/-- finding a key -/
theorem find_key {es : Array MapEntry} {E : List Ar} {c : Nat} (h : EntsOf es E c) (hE : ∀ e ∈ E, KeyOK e) (W : World) (k : Ar) (hk : KeyOK k) :
    ((Instr.findKey 48 (keyV k) es.toList).run Try.prog W = .ok none W ∧ ∀ j, j < E.length → keyB k.pr k.pa (E.getD j Ar.zero) = false) ∨
    ∃ j v, (Instr.findKey 48 (keyV k) es.toList).run Try.prog W = .ok (some (j, v)) W ∧ j < E.length ∧ keyB k.pr k.pa (E.getD j Ar.zero) = true := by
  obtain ⟨lk, hlk⟩ := keyOf_V hk
  rcases keyed48.find W hlk es.toList (fun x hx => by
    obtain ⟨j, hj⟩ := List.getElem?_of_mem hx
    obtain ⟨h1, h2, _⟩ := h.at hj
    rw [h2]
    exact keyOf_V (hE _ (by rw [getD_get h1]; exact List.getElem_mem h1))) with ⟨h1, h2⟩ | ⟨j, x, h1, h2, h3⟩
  · refine Or.inl ⟨h1, fun j hj => decide_eq_false fun hh => ?_⟩
    have hj2 : j < es.toList.length := by rw [h.len]; exact hj
    have h4 := List.getElem?_eq_getElem hj2
    obtain ⟨_, h5, _⟩ := h.at h4
    refine h2 _ (List.getElem_mem hj2) ?_
    rw [h5]
    unfold keyV
    rw [hh.1, hh.2]
  · obtain ⟨h4, h5, _⟩ := h.at h2
    rw [h5] at h3
    exact Or.inr ⟨j, x.val, h1, h4, decide_eq_true (keyV_inj h3)⟩
theorem modify_set {α : Type} (l : List α) (j : Nat) (f : α → α) (hj : j < l.length) : l.modify j f = l.set j (f l[j]) := by
  apply List.ext_getElem
  · simp
  · intro i h1 h2
    rw [List.getElem_modify, List.getElem_set]
    split
    · rename_i h; subst h; rfl
    · rfl
theorem run_update {W : World} {mb : Nat} {E : List Ar} (h : MapIs W mb E) (hE : ∀ e ∈ E, KeyOK e) (hA : Apart E) (e : Ar) (he : KeyOK e) :
    ∃ W' E', (Instr.mapUpdate 47 (.map (some mb)) (keyV e) (arVal e)).run Try.prog W = .ok () W' ∧ MapIs W' mb E' ∧ Tick mb W W' ∧ E'.Perm (e :: E.filter (notKey e.pr e.pa)) := by
  obtain ⟨es, c, hb, hent⟩ := h
  obtain ⟨lk, hlk⟩ := keyOf_V he
  rcases find_key hent hE W e he with ⟨h1, h2⟩ | ⟨j, v, h1, h2, h3⟩
  · refine ⟨_, E ++ [e], ?_, ⟨es.push { key := keyV e, val := arVal e, born := c }, c + 1, heap_setBlock_same hb _, ?_⟩, tick_set hb _, push_perm h2⟩
    · simp [Instr.mapUpdate, run_underlying Try.underlying47, MapKept.run_getObj_map hb, keyed48.check W _ hlk, h1, MapKept.run_setObj_map _ hb, Result.andThen, setBlock]
    · refine ⟨?_, ?_, ?_⟩
      · simp only [Array.toList_push, List.map_append, hent.ent]; rfl
      · simp only [Array.toList_push, List.map_append, List.map_cons, List.map_nil]
        rw [List.nodup_append]
        refine ⟨hent.nd, by simp, ?_⟩
        intro a ha b hb2
        obtain ⟨x, hx, rfl⟩ := List.mem_map.1 ha
        have := hent.old x hx
        simp at hb2
        omega
      · intro x hx
        simp only [Array.toList_push, List.mem_append, List.mem_singleton] at hx
        rcases hx with hx | rfl
        · have := hent.old x hx; omega
        · exact Nat.lt_succ_self _
  · have hj : j < es.toList.length := by rw [hent.len]; exact h2
    have hjs : j < es.size := by simpa using hj
    have hkey : (es[j]).key = keyV e := by
      obtain ⟨_, h5, _⟩ := hent.at (List.getElem?_eq_getElem hj)
      have h6 := of_decide_eq_true h3
      have : es[j] = es.toList[j] := by simp
      rw [this, h5]
      unfold keyV
      rw [h6.1, h6.2]
    refine ⟨_, E.set j e, ?_, ⟨es.modify j (fun x => { x with key := keyV e, val := arVal e }), c, heap_setBlock_same hb _, ?_⟩, tick_set hb _, set_perm hA h2 h3⟩
    · simp [Instr.mapUpdate, run_underlying Try.underlying47, MapKept.run_getObj_map hb, keyed48.check W _ hlk, h1, MapKept.run_setObj_map _ hb, Result.andThen, setBlock, hjs, hkey, keyed48.stays W hlk]
    · have hl : (es.modify j (fun x => { x with key := keyV e, val := arVal e })).toList = es.toList.set j { es.toList[j] with key := keyV e, val := arVal e } := by
        rw [Array.toList_modify, modify_set _ _ _ hj]
      refine ⟨?_, ?_, ?_⟩
      · rw [hl, List.map_set, hent.ent, List.map_set]
      · rw [hl, List.map_set]
        have h5 : (es.toList.map (·.born)).set j (es.toList[j]).born = es.toList.map (·.born) := by
          have h6 : j < (es.toList.map (·.born)).length := by simpa using hj
          have h7 : (es.toList[j]).born = (es.toList.map (·.born))[j] := by simp
          rw [h7, List.set_getElem_self]
        exact (congrArg List.Nodup h5).mpr hent.nd
      · intro x hx
        rw [hl] at hx
        rcases List.mem_or_eq_of_mem_set hx with hx | rfl
        · exact hent.old x hx
        · show (es.toList[j]).born < c
          exact hent.old _ (List.getElem_mem hj)
theorem ents_erase {es : Array MapEntry} {E : List Ar} {c j : Nat} (h : EntsOf es E c) (hj : j < E.length) : (es.eraseIdxIfInBounds j).toList = es.toList.eraseIdx j ∧ EntsOf (es.eraseIdxIfInBounds j) (E.eraseIdx j) c := by
  have hj2 : j < es.toList.length := by rw [h.len]; exact hj
  have hjs : j < es.size := by simpa using hj2
  have hsub : (es.eraseIdxIfInBounds j).toList = es.toList.eraseIdx j := by
    unfold Array.eraseIdxIfInBounds
    rw [dif_pos hjs]
    simp
  refine ⟨hsub, ?_, ?_, ?_⟩
  · rw [hsub, Go.ChangeMaps.map_eraseIdx, h.ent, ← Go.ChangeMaps.map_eraseIdx]
  · rw [hsub]
    exact List.Nodup.sublist ((List.eraseIdx_sublist _ _).map _) h.nd
  · intro x hx
    rw [hsub] at hx
    exact h.old x ((List.eraseIdx_sublist _ _).subset hx)
theorem run_delete {W : World} {mb : Nat} {E : List Ar} (h : MapIs W mb E) (hE : ∀ e ∈ E, KeyOK e) (hA : Apart E) (k : Ar) (hk : KeyOK k) :
    ∃ W', (∀ ty, (Builtin.delete_ #[47, 48] ty #[.map (some mb), keyV k]).run Try.prog W = .ok (.tuple #[]) W') ∧ MapIs W' mb (E.filter (notKey k.pr k.pa)) ∧ Tick mb W W' := by
  obtain ⟨es, c, hb, hent⟩ := h
  obtain ⟨lk, hlk⟩ := keyOf_V hk
  rcases find_key hent hE W k hk with ⟨h1, h2⟩ | ⟨j, v, h1, h2, h3⟩
  · refine ⟨setBlock W mb (.map es c), fun ty => ?_, ⟨es, c, heap_setBlock_same hb _, by rw [filter_none h2]; exact hent⟩, tick_set hb _⟩
    simp [Builtin.delete_, run_underlying Try.underlying47, MapKept.run_getObj_map hb, keyed48.check W _ hlk, h1, MapKept.run_setObj_map _ hb, Result.andThen, setBlock]
  · refine ⟨setBlock W mb (.map (es.eraseIdxIfInBounds j) c), fun ty => ?_, ⟨_, c, heap_setBlock_same hb _, by rw [filter_key hA h2 h3]; exact (ents_erase hent h2).2⟩, tick_set hb _⟩
    simp [Builtin.delete_, run_underlying Try.underlying47, MapKept.run_getObj_map hb, keyed48.check W _ hlk, h1, MapKept.run_setObj_map _ hb, Result.andThen, setBlock]
theorem run_len {W : World} {mb : Nat} {E : List Ar} (h : MapIs W mb E) (ty : TypeId) : (Builtin.len_ #[47] ty #[.map (some mb)]).run Try.prog W = .ok (.int .i64 E.length) W := by
  obtain ⟨es, c, hb, hent⟩ := h
  have := hent.len
  have h2 : es.size = E.length := by simpa using this
  simp [Builtin.len_, Builtin.lenOf, run_underlying Try.underlying47, MapKept.run_getObj_map hb, Result.andThen, h2, goInt]

/-- block r goes through the map in block mb, which holds the entries E; of those that it has seen F holds; cnt are left -/
def IterAt (W : World) (mb r : Nat) (E : List Ar) (F : Ar → Prop) (cnt : Nat) : Prop :=
  ∃ es clock since seen c0, W.heap[mb]? = some (.map es clock) ∧ EntsOf es E clock ∧ W.heap[r]? = some (.mapIter (some mb) since seen c0) ∧ (∀ x ∈ es.toList, x.born < since) ∧ since ≤ c0 ∧ since ≤ clock ∧
    (leftOf es seen).size = cnt ∧ ∀ j x, es.toList[j]? = some x → seen.contains x.born = true → F (E.getD j Ar.zero)
theorem IterAt.map {W : World} {mb r : Nat} {E : List Ar} {F : Ar → Prop} {cnt : Nat} (h : IterAt W mb r E F cnt) : MapIs W mb E := by
  obtain ⟨es, c, _, _, _, h1, h2, _⟩ := h
  exact ⟨es, c, h1, h2⟩
theorem IterAt.lt {W : World} {mb r : Nat} {E : List Ar} {F : Ar → Prop} {cnt : Nat} (h : IterAt W mb r E F cnt) : r < W.heap.size := by
  obtain ⟨es, c, _, _, _, _, _, h3, _⟩ := h
  exact (Array.getElem?_eq_some_iff.1 h3).1
theorem IterAt.same {W W' : World} {mb r : Nat} {E : List Ar} {F : Ar → Prop} {cnt : Nat} (h : IterAt W mb r E F cnt) (hb : W'.heap[mb]? = W.heap[mb]?) (hr : W'.heap[r]? = W.heap[r]?) : IterAt W' mb r E F cnt := by
  obtain ⟨es, c, s, sn, c0, h1, h2, h3, h4⟩ := h
  exact ⟨es, c, s, sn, c0, hb.trans h1, h2, hr.trans h3, h4⟩
theorem IterAt.below {W W' : World} {mb r : Nat} {E : List Ar} {F : Ar → Prop} {cnt : Nat} (h : IterAt W mb r E F cnt) (hb : Below W.heap.size W W') : IterAt W' mb r E F cnt := h.same (hb.block mb h.map.lt) (hb.block r h.lt)
theorem IterAt.mono {W : World} {mb r : Nat} {E : List Ar} {F G : Ar → Prop} {cnt : Nat} (h : IterAt W mb r E F cnt) (hFG : ∀ a, F a → G a) : IterAt W mb r E G cnt := by
  obtain ⟨es, c, s, sn, c0, h1, h2, h3, h4, h5, h6, h7, h8⟩ := h
  exact ⟨es, c, s, sn, c0, h1, h2, h3, h4, h5, h6, h7, fun j x hx hs => hFG _ (h8 j x hx hs)⟩
theorem IterAt.left_eq {W : World} {mb r : Nat} {E : List Ar} {F : Ar → Prop} {cnt : Nat} (h : IterAt W mb r E F cnt) : W.rangeLeft mb r = cnt := by
  obtain ⟨es, c, s, sn, c0, h1, _, h3, _, _, _, h7, _⟩ := h
  simp only [World.rangeLeft, h1, h3]
  exact h7
theorem run_range {W : World} {mb : Nat} {E : List Ar} (h : MapIs W mb E) : ∃ W' cnt, (Instr.range 47 (.map (some mb))).run Try.prog W = .ok (.pointer (some ⟨W.heap.size, 0, none⟩)) W' ∧ IterAt W' mb W.heap.size E (fun _ => False) cnt ∧ Below W.heap.size W W' := by
  obtain ⟨es, c, hb, hent⟩ := h
  have hlt := (Array.getElem?_eq_some_iff.1 hb).1
  refine ⟨W.alloc (.mapIter (some mb) c #[] c), _, ?_, ⟨es, c, c, #[], c, (Below.heap_alloc W _ mb hlt).trans hb, hent, Go.heap_alloc_new W _, hent.old, Nat.le_refl _, Nat.le_refl _, rfl, fun j x _ hs => by simp at hs⟩, (Below.refl _ W).alloc (Nat.le_refl _) _⟩
  simp [Instr.range, run_underlying Try.underlying47, MapKept.run_getObj_map hb, Result.andThen, newObj, Sem.run]
/-- one step -/
theorem run_step {W : World} {mb r : Nat} {E : List Ar} {F : Ar → Prop} {cnt : Nat} (h : IterAt W mb r E F cnt) (ty : TypeId) :
    (cnt = 0 ∧ (∀ e ∈ E, F e) ∧ (Instr.next (.pointer (some ⟨r, 0, none⟩)) false ty).run Try.prog W = .ok (.tuple #[.bool false]) W) ∨
    ∃ e W' cnt', e ∈ E ∧ cnt' < cnt ∧ (Instr.next (.pointer (some ⟨r, 0, none⟩)) false ty).run Try.prog W = .ok (.tuple #[.bool true, keyV e, arVal e]) W' ∧ IterAt W' mb r E (fun a => F a ∨ a = e) cnt' ∧ Tick r W W' ∧
      (Instr.entry (.pointer (some ⟨r, 0, none⟩))).run Try.prog W' = .ok (.tuple #[keyV e, arVal e]) W' := by
  obtain ⟨es, c, s, sn, c0, h1, h2, h3, h4, h5, h6, rfl, h8⟩ := h
  have hne : r ≠ mb := by
    intro e
    rw [e, h1] at h3
    cases h3
  rcases run_next_at (P := Try.prog) W ty r mb s c0 sn es c h3 h1 h4 h5 with ⟨h0, hrun⟩ | ⟨x, hx, w1, hal, hrun⟩
  · refine Or.inl ⟨h0, fun e he => ?_, hrun⟩
    obtain ⟨j, hj, rfl⟩ := List.mem_iff_getElem.1 he
    have hj2 : j < es.toList.length := by rw [h2.len]; exact hj
    have := h8 j _ (List.getElem?_eq_getElem hj2) (all_seen es sn h0 _ (List.getElem_mem hj2))
    rwa [getD_get hj] at this
  · obtain ⟨hxm, hxs⟩ := Go.mem_left hx
    obtain ⟨j, hj⟩ := List.getElem?_of_mem hxm
    obtain ⟨hj2, hk, hv⟩ := h2.at hj
    have hr1 : w1.heap[r]? = some (.mapIter (some mb) s sn c0) := by rcases hal with rfl | rfl <;> exact h3
    have hb1 : w1.heap[mb]? = some (.map es c) := by rcases hal with rfl | rfl <;> exact h1
    have hset := MapKept.heap_set (o' := .mapIter (some mb) s (sn.push x.born) c) hr1
    have hb' : (setBlock w1 r (.mapIter (some mb) s (sn.push x.born) c)).heap[mb]? = some (.map es c) := (hset.2 mb (fun e1 => hne e1.symm)).trans hb1
    rw [hk, hv] at hrun
    have hent := run_entry_at (P := Try.prog) (setBlock w1 r (.mapIter (some mb) s (sn.push x.born) c)) r mb s sn es c x hset.1 hb' hxm h2.nd
    rw [hk, hv] at hent
    refine Or.inr ⟨E.getD j Ar.zero, _, _, by rw [getD_get hj2]; exact List.getElem_mem hj2, left_shrinks es sn x hx, hrun, ⟨es, c, s, sn.push x.born, c, hb', h2, hset.1, h4, h6, h6, rfl, fun i y hy hs => ?_⟩, ?_, hent⟩
    · rw [Go.contains_push, Bool.or_eq_true] at hs
      rcases hs with hs | hs
      · exact Or.inl (h8 i y hy hs)
      · right
        have hb : y.born = x.born := by simpa using hs
        have hi : i < es.toList.length := (List.getElem?_eq_some_iff.1 hy).1
        have hj3 : j < es.toList.length := (List.getElem?_eq_some_iff.1 hj).1
        have e1 : (es.toList.map (·.born))[i]'(by simpa using hi) = (es.toList.map (·.born))[j]'(by simpa using hj3) := by
          simp only [List.getElem_map]
          rw [(List.getElem?_eq_some_iff.1 hy).2, (List.getElem?_eq_some_iff.1 hj).2, hb]
        have hpw := List.pairwise_iff_getElem.1 h2.nd
        have : i = j := by
          rcases Nat.lt_trichotomy i j with h | h | h
          · exact absurd e1 (hpw i j _ _ h)
          · exact h
          · exact absurd e1.symm (hpw j i _ _ h)
        rw [this]
    · rcases hal with rfl | rfl <;> exact ⟨rfl, rfl, rfl, by simp [setBlock], fun k hk => hset.2 k hk⟩
/-- deleting in a round -/
theorem IterAt.delete {W : World} {mb r : Nat} {E : List Ar} {F : Ar → Prop} {cnt : Nat} (h : IterAt W mb r E F cnt) (hE : ∀ e ∈ E, KeyOK e) (hA : Apart E) (k : Ar) (hk : KeyOK k) :
    ∃ W' cnt', (∀ ty, (Builtin.delete_ #[47, 48] ty #[.map (some mb), keyV k]).run Try.prog W = .ok (.tuple #[]) W') ∧ IterAt W' mb r (E.filter (notKey k.pr k.pa)) F cnt' ∧ cnt' ≤ cnt ∧ Tick mb W W' := by
  obtain ⟨es, c, s, sn, c0, h1, h2, h3, h4, h5, h6, rfl, h8⟩ := h
  have hne : r ≠ mb := by
    intro e
    rw [e, h1] at h3
    cases h3
  obtain ⟨lk, hlk⟩ := keyOf_V hk
  rcases find_key h2 hE W k hk with ⟨f1, f2⟩ | ⟨j, v, f1, f2, f3⟩
  · refine ⟨setBlock W mb (.map es c), _, fun ty => ?_, ⟨es, c, s, sn, c0, heap_setBlock_same h1 _, by rw [filter_none f2]; exact h2, (heap_setBlock_other h1 _ hne).trans h3, h4, h5, h6, rfl, by rw [filter_none f2]; exact h8⟩, Nat.le_refl _, tick_set h1 _⟩
    simp [Builtin.delete_, run_underlying Try.underlying47, MapKept.run_getObj_map h1, keyed48.check W _ hlk, f1, MapKept.run_setObj_map _ h1, Result.andThen, setBlock]
  · obtain ⟨hsub, hent⟩ := ents_erase h2 f2
    refine ⟨setBlock W mb (.map (es.eraseIdxIfInBounds j) c), _, fun ty => ?_, ⟨_, c, s, sn, c0, heap_setBlock_same h1 _, by rw [filter_key hA f2 f3]; exact hent, (heap_setBlock_other h1 _ hne).trans h3, fun x hx => ?_, h5, h6, rfl, fun i x hx hs => ?_⟩, ?_, tick_set h1 _⟩
    · simp [Builtin.delete_, run_underlying Try.underlying47, MapKept.run_getObj_map h1, keyed48.check W _ hlk, f1, MapKept.run_setObj_map _ h1, Result.andThen, setBlock]
    · rw [hsub] at hx
      exact h4 x ((List.eraseIdx_sublist _ _).subset hx)
    · rw [filter_key hA f2 f3]
      rw [hsub, List.getElem?_eraseIdx] at hx
      have hi : i < (E.eraseIdx j).length := by
        have h9 := hent.len
        rw [hsub] at h9
        rw [← h9]
        split at hx
        · exact (List.getElem?_eq_some_iff.1 (show (es.toList.eraseIdx j)[i]? = some x by rw [List.getElem?_eraseIdx]; split <;> first | exact hx | omega)).1
        · exact (List.getElem?_eq_some_iff.1 (show (es.toList.eraseIdx j)[i]? = some x by rw [List.getElem?_eraseIdx]; split <;> first | exact hx | omega)).1
      rw [getD_get hi, List.getElem_eraseIdx]
      split at hx
      · rename_i hlt
        have := h8 i x hx hs
        rw [dif_pos hlt]
        rwa [getD_get (by omega)] at this
      · rename_i hlt
        have := h8 (i + 1) x hx hs
        rw [dif_neg hlt]
        rwa [getD_get (by rw [List.length_eraseIdx_of_lt f2] at hi; omega)] at this
    · have e1 : ∀ a : Array MapEntry, (leftOf a sn).size = (a.toList.filter fun e => !sn.contains e.born).length := fun a => by
        unfold leftOf
        rw [← Array.toList_filter, Array.length_toList]
      rw [e1, e1, hsub]
      exact ((List.eraseIdx_sublist _ _).filter _).length_le
section
variable (w : World) {ops : Array Oper} {rest : List Oper} {o : Oper} {a : Act} {Q : Exit → Act → World → Prop}
theorem wpList_update (hg : o.guard = none) (m x v : Operand) (hop : o.op = Op.mapUpdate 47 m x v) (mb : Nat) (E : List Ar) (hm : a.eval m = .map (some mb)) (h : MapIs w mb E) (hE : ∀ e ∈ E, KeyOK e) (hA : Apart E) (e : Ar) (he : KeyOK e)
    (hx : a.eval x = keyV e) (hv : a.eval v = arVal e) (hK : ∀ w' E', MapIs w' mb E' → Tick mb w w' → E'.Perm (e :: E.filter (notKey e.pr e.pa)) → wpList Try.prog ops Q rest (a.put o.dst undef) w') : wpList Try.prog ops Q (o :: rest) a w := by
  refine wpList_plain hg fun K' hK' => ?_
  obtain ⟨w', E', hrun, r1, r2, r3⟩ := run_update h hE hA e he
  unfold Oper.wp
  simp [execOp, hop, hm, hx, hv, hrun, Result.andThen]
  exact hK' _ _ (hK w' E' r1 r2 r3)
theorem wpList_range47 (hg : o.guard = none) (m : Operand) (hop : o.op = Op.range 47 m) (mb : Nat) (E : List Ar) (hm : a.eval m = .map (some mb)) (h : MapIs w mb E)
    (hK : ∀ w' cnt, IterAt w' mb w.heap.size E (fun _ => False) cnt → Below w.heap.size w w' → wpList Try.prog ops Q rest (a.put o.dst (.pointer (some ⟨w.heap.size, 0, none⟩))) w') : wpList Try.prog ops Q (o :: rest) a w := by
  refine wpList_plain hg fun K' hK' => ?_
  obtain ⟨w', cnt, hrun, r1, r2⟩ := run_range h
  unfold Oper.wp
  simp [execOp, hop, hm, hrun, Result.andThen]
  exact hK' _ _ (hK w' cnt r1 r2)
theorem wpList_step (hg : o.guard = none) (it : Operand) (hop : o.op = Op.next it false) (mb r : Nat) (E : List Ar) (F : Ar → Prop) (cnt : Nat) (hit : a.eval it = .pointer (some ⟨r, 0, none⟩)) (h : IterAt w mb r E F cnt)
    (hDone : (∀ e ∈ E, F e) → wpList Try.prog ops Q rest (a.put o.dst (.tuple #[.bool false])) w)
    (hMore : ∀ e w' cnt', e ∈ E → cnt' < cnt → IterAt w' mb r E (fun a => F a ∨ a = e) cnt' → Tick r w w' → (Instr.entry (.pointer (some ⟨r, 0, none⟩))).run Try.prog w' = .ok (.tuple #[keyV e, arVal e]) w' → wpList Try.prog ops Q rest (a.put o.dst (.tuple #[.bool true, keyV e, arVal e])) w') :
    wpList Try.prog ops Q (o :: rest) a w := by
  refine wpList_plain hg fun K' hK' => ?_
  unfold Oper.wp
  rcases run_step h o.type with ⟨h0, hl, hrun⟩ | ⟨e, w', cnt', h1, h2, hrun, h3, h4, h5⟩
  · simp [execOp, hop, hit, hrun, Result.andThen]
    exact hK' _ _ (hDone hl)
  · simp [execOp, hop, hit, hrun, Result.andThen]
    exact hK' _ _ (hMore e w' cnt' h1 h2 h3 h4 h5)
theorem wpList_delete (hg : o.guard = none) (m x : Operand) (hop : o.op = Op.call { callee := Callee.builtin Builtin.delete, args := #[m, x], argTypes := #[47, 48] }) (mb : Nat) (E : List Ar) (hm : a.eval m = .map (some mb)) (h : MapIs w mb E) (hE : ∀ e ∈ E, KeyOK e) (hA : Apart E) (k : Ar) (hk : KeyOK k) (hx : a.eval x = keyV k)
    (hK : ∀ w', MapIs w' mb (E.filter (notKey k.pr k.pa)) → Tick mb w w' → wpList Try.prog ops Q rest (a.put o.dst (.tuple #[])) w') : wpList Try.prog ops Q (o :: rest) a w := by
  refine wpList_plain hg fun K' hK' => ?_
  obtain ⟨w', hrun, r1, r2⟩ := run_delete h hE hA k hk
  unfold Oper.wp
  simp [execOp, hop, resolve, invoke, builtin, hm, hx, hrun, Result.andThen]
  exact hK' _ _ (hK w' r1 r2)
theorem wpList_deleteIt (hg : o.guard = none) (m x : Operand) (hop : o.op = Op.call { callee := Callee.builtin Builtin.delete, args := #[m, x], argTypes := #[47, 48] }) (mb r : Nat) (E : List Ar) (F : Ar → Prop) (cnt : Nat) (hm : a.eval m = .map (some mb)) (h : IterAt w mb r E F cnt) (hE : ∀ e ∈ E, KeyOK e) (hA : Apart E) (k : Ar) (hk : KeyOK k) (hx : a.eval x = keyV k)
    (hK : ∀ w' cnt', IterAt w' mb r (E.filter (notKey k.pr k.pa)) F cnt' → cnt' ≤ cnt → Tick mb w w' → wpList Try.prog ops Q rest (a.put o.dst (.tuple #[])) w') : wpList Try.prog ops Q (o :: rest) a w := by
  refine wpList_plain hg fun K' hK' => ?_
  obtain ⟨w', cnt', hrun, r1, r2, r3⟩ := h.delete hE hA k hk
  unfold Oper.wp
  simp [execOp, hop, resolve, invoke, builtin, hm, hx, hrun, Result.andThen]
  exact hK' _ _ (hK w' cnt' r1 r2 r3)
end
end Go.Proofs.Ytodonnagmgbliaa
