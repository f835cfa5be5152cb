/- Histories: rows of strings; adding a state. -/
import Derived.Test.YtebdnnfaghhpkaaShelf
import Derived.Test.YtebdnnfaghhpkaaTap
namespace Go.Proofs.Ytebdnnfaghhpkaa
open Go.ChangeShapes Go.WideShapes Go.ChangeAt Go.RowKit

/-- a is the head of a row of strings l, in a block from B on -/
def StrRow (B : Nat) (a : Option Addr) (cap : Nat) (l : List ByteArray) (w : World) : Prop :=
  (a = none ∧ l = [] ∧ cap = 0) ∨ ∃ g, a = some ⟨g, 0, none⟩ ∧ B ≤ g ∧ g < w.heap.size ∧ l.length ≤ cap ∧ cap ≤ maxLen ∧ ∀ j, j < l.length → w.cell? ⟨g, j, none⟩ = some (.string (l.getD j ByteArray.empty))
theorem StrRow.mono {B C cap : Nat} {a : Option Addr} {l : List ByteArray} {w : World} (h : StrRow B a cap l w) (hc : C ≤ B) : StrRow C a cap l w := by
  rcases h with h | ⟨g, h1, h2, h3, h4⟩
  · exact Or.inl h
  · exact Or.inr ⟨g, h1, Nat.le_trans hc h2, h3, h4⟩
theorem StrRow.below {B cap : Nat} {a : Option Addr} {l : List ByteArray} {w w' : World} (h : StrRow B a cap l w) (hb : Below w.heap.size w w') : StrRow B a cap l w' := by
  rcases h with h | ⟨g, h1, h2, h3, h4, h5, h6⟩
  · exact Or.inl h
  · exact Or.inr ⟨g, h1, h2, Nat.lt_of_lt_of_le h3 hb.size, h4, h5, fun j hj => by rw [hb.cell (p := ⟨g, j, none⟩) h3]; exact h6 j hj⟩
theorem StrRow.tock {B t cap : Nat} {a : Option Addr} {l : List ByteArray} {w w' : World} (h : StrRow B a cap l w) (ht : t < B) (hk : Tock t w w') : StrRow B a cap l w' := by
  rcases h with h | ⟨g, h1, h2, h3, h4, h5, h6⟩
  · exact Or.inl h
  · exact Or.inr ⟨g, h1, h2, Nat.lt_of_lt_of_le h3 hk.size, h4, h5, fun j hj => by rw [hk.cell (by omega) h3]; exact h6 j hj⟩
theorem StrRow.ofOwn {B n : Nat} {v : Value} {l : List ByteArray} {w : World} (h : w.ownsRow B 9 1 v n (l.map Value.string)) : ∃ a cap, v = .slice a l.length cap ∧ n = l.length ∧ StrRow B a cap l w := by
  have hl : n = l.length := by have := h.1; simp at this; omega
  subst hl
  rcases h.2 with ⟨hv, hn⟩ | ⟨g, cap, cur, hv, _, _, hc1, hc2, _⟩
  · refine ⟨none, 0, ?_, rfl, Or.inl ⟨rfl, List.length_eq_zero_iff.1 hn, rfl⟩⟩
    rw [hv, hn]
  · refine ⟨some ⟨g, 0, none⟩, cap, hv, rfl, Or.inr ⟨g, rfl, ?_, ?_, hc1, hc2, ?_⟩⟩
    · exact (h.lt g (by rw [hv]; rfl)).1
    · exact (h.lt g (by rw [hv]; rfl)).2
    · intro j hj
      have := h.cells (g := g) (by rw [hv]; rfl) j (.string (l.getD j ByteArray.empty)) (by simp [List.getD, hj])
      rw [Addr.add_lit] at this
      simpa using this
/-- slices.Clone at a row of strings -/
theorem clone_any (B : Nat) (a : Option Addr) (l : List ByteArray) (cap : Nat) (w : World) (h : StrRow B a cap l w) (hl : l.length ≤ 100000) :
    Calls Try.prog 40 #[.slice a l.length cap] w fun e w' => ∃ v', e = .returned v' ∧ w'.ownsRow w.heap.size 9 1 v' l.length (l.map Value.string) ∧ Below w.heap.size w w' := by
  rcases h with ⟨rfl, rfl, rfl⟩ | ⟨g, rfl, h2, h3, h4, h5, h6⟩
  · refine (Try.slices_Clone_string_nil _ _ _).mono ?_
    rintro e w' ⟨rfl, rfl⟩
    exact ⟨_, rfl, ⟨by simp, Or.inl ⟨rfl, rfl⟩⟩, Below.refl _ _⟩
  · refine (Try.slices_Clone_string g 0 l.length cap l w (Nat.le_refl _) (by omega) (fun j hj => by rw [Nat.zero_add]; exact h6 j hj)).mono ?_
    rintro e w' ⟨v', rfl, ho, _, hb⟩
    rw [List.take_length] at ho
    exact ⟨v', rfl, ho, hb⟩
theorem str_info : (Try.prog.info? 9).map (fun i => (i.zero, i.size, i.bytes)) = some (some (.string ⟨#[]⟩), 1, 16) := by kernel_rfl
/-- append of a row of strings onto a row of the call's own, at one operation -/
theorem wp_app {o : Oper} {a : Act} {w : World} {K : Act → World → Prop} {Q : Exit → Act → World → Prop} (s x : Operand)
    (ho : o.op = .call { callee := .builtin .append, args := #[s, x], argTypes := #[38, 38] })
    (base : Nat) (v : Value) (l : List ByteArray) (hs : a.eval s = v) (hown : w.ownsRow base 9 1 v l.length (l.map Value.string))
    (B : Nat) (ad : Option Addr) (m : List ByteArray) (cap : Nat) (hx : a.eval x = .slice ad m.length cap) (hr : StrRow B ad cap m w)
    (hl : l.length ≤ 100000) (hm : m.length ≤ 100000) (hbase : base ≤ w.heap.size)
    (h : ∀ a' cap' w', w'.ownsRow base 9 1 (.slice a' (l ++ m).length cap') (l ++ m).length ((l ++ m).map Value.string) → StrRow base a' cap' (l ++ m) w' → Below base w w' → K (a.put o.dst (.slice a' (l ++ m).length cap')) w') : o.wp Try.prog a w K Q := by
  obtain ⟨i0, hi, hz0, hz1, hz2⟩ := info_parts str_info
  have key : ∃ v' w', (Builtin.append_ #[38, 38] o.type #[v, .slice ad m.length cap]).run Try.prog w = .ok v' w' ∧ w'.ownsRow base 9 1 v' (l ++ m).length ((l ++ m).map Value.string) ∧ Below base w w' := by
    rcases hr with ⟨rfl, rfl, rfl⟩ | ⟨g, rfl, h2, h3, h4, h5, h6⟩
    · refine ⟨v, w, run_append_owned_none (P := Try.prog) (w := w) base 38 o.type 9 i0 1 Try.underlying38 hi v _ _ hown, ?_, Below.refl _ _⟩
      rw [List.append_nil]; exact hown
    · obtain ⟨v', w', hrun, e2, e3, _⟩ := run_append_own (P := Try.prog) (w := w) base 38 o.type 9 i0 (.string ⟨#[]⟩) 1 16 Try.underlying38 hi hz0 hz1 hz2 rfl (by decide) v _ _ hown ⟨g, 0, none⟩ m.length cap (m.map Value.string) (by simp) (by
          intro j u hj
          have hjm : j < m.length := by
            have := (List.getElem?_eq_some_iff.1 hj).1
            simpa using this
          rw [Addr.add_lit, Nat.zero_add, h6 j hjm]
          have e : (m.map Value.string)[j]? = some (Value.string (m.getD j ByteArray.empty)) := by simp [List.getD, hjm]
          rw [e] at hj
          exact hj) (by intro u hu; obtain ⟨x, _, rfl⟩ := List.mem_map.1 hu; rfl) (by unfold maxLen; omega) (by omega) hbase
      refine ⟨v', w', hrun, ?_, (Below.refl base w).grown e3 hbase (fun k hk => (hown.lt k hk).1)⟩
      rw [List.map_append, List.length_append]
      exact e2
  obtain ⟨v', w', hrun, e2, e3⟩ := key
  unfold Oper.wp execOp
  simp only [ho, resolve, invoke, builtin, Sem.run_bind, Sem.run_pure, Result.andThen_ok, List.map_toArray, List.map_cons, List.map_nil, hs, hx, hrun]
  obtain ⟨a', cap', rfl, _, hr2⟩ := StrRow.ofOwn e2
  exact h a' cap' w' e2 hr2 e3
theorem step_app {ops : Array Oper} {o : Oper} {a : Act} {w : World} {K : Act → World → Prop} {Q : Exit → Act → World → Prop} {E : Prop} (hg : o.guard = none) (s x : Operand)
    (ho : o.op = .call { callee := .builtin .append, args := #[s, x], argTypes := #[38, 38] })
    (base : Nat) (v : Value) (l : List ByteArray) (hs : a.eval s = v) (hown : w.ownsRow base 9 1 v l.length (l.map Value.string))
    (B : Nat) (ad : Option Addr) (m : List ByteArray) (cap : Nat) (hx : a.eval x = .slice ad m.length cap) (hr : StrRow B ad cap m w)
    (hl : l.length ≤ 100000) (hm : m.length ≤ 100000) (hbase : base ≤ w.heap.size)
    (h : ∀ a' cap' w', w'.ownsRow base 9 1 (.slice a' (l ++ m).length cap') (l ++ m).length ((l ++ m).map Value.string) → StrRow base a' cap' (l ++ m) w' → Below base w w' → K (a.put o.dst (.slice a' (l ++ m).length cap')) w') :
    if Region.wanted o (yielded ops a.tmps) = true then Oper.wp Try.prog o a w K Q else E := by
  rw [if_pos (by simp [Region.wanted, hg])]
  exact wp_app s x ho base v l hs hown B ad m cap hx hr hl hm hbase h

/-- what is known while a history is made: the parameter's block P and the answer's block P + 1 -/
structure Hst (w W : World) (s0 : Value) (q : Int) : Prop where
  bel : Below w.heap.size w W
  lt : w.heap.size + 2 ≤ W.heap.size
  p0 : W.cell? ⟨w.heap.size, 0, none⟩ = some s0
  p1 : W.cell? ⟨w.heap.size, 1, none⟩ = some (.int .i64 q)
  r0 : ∃ u, W.cell? ⟨w.heap.size + 1, 0, none⟩ = some u
  r1 : ∃ u, W.cell? ⟨w.heap.size + 1, 1, none⟩ = some u
  f0 : W.frozen? ⟨w.heap.size + 1, 0, none⟩ = false
  f1 : W.frozen? ⟨w.heap.size + 1, 1, none⟩ = false
theorem Hst.below {w W W' : World} {s0 : Value} {q : Int} {B : Nat} (h : Hst w W s0 q) (hb : Below B W W') (hB : w.heap.size + 2 ≤ B) : Hst w W' s0 q where
  bel := h.bel.trans (hb.mono (by omega))
  lt := Nat.le_trans h.lt hb.size
  p0 := by rw [hb.cell (by show w.heap.size < B; omega)]; exact h.p0
  p1 := by rw [hb.cell (by show w.heap.size < B; omega)]; exact h.p1
  r0 := by rw [hb.cell (by show w.heap.size + 1 < B; omega)]; exact h.r0
  r1 := by rw [hb.cell (by show w.heap.size + 1 < B; omega)]; exact h.r1
  f0 := by rw [hb.frozen (by show w.heap.size + 1 < B; omega)]; exact h.f0
  f1 := by rw [hb.frozen (by show w.heap.size + 1 < B; omega)]; exact h.f1
theorem Hst.start (w : World) (s0 : Value) (q : Int) : Hst w ((w.alloc (Obj.cells #[s0, .int .i64 q] 40)).alloc (Obj.cells #[.slice none 0 0, .int .i64 0] 40)) s0 q := by
  refine ⟨((Below.refl _ w).alloc (Nat.le_refl _) _).alloc (by simp) _, by simp, ?_, ?_, ⟨.slice none 0 0, ?_⟩, ⟨.int .i64 0, ?_⟩, ?_, ?_⟩ <;> simp
theorem Hst.done {w W : World} {s0 : Value} {q : Int} (h : Hst w W s0 q) (v : Value) (q' : Int) {a : Option Addr} {cap : Nat} {l : List ByteArray} (hr : StrRow (w.heap.size + 2) a cap l W) :
    ((W.setCell ⟨w.heap.size + 1, 0, none⟩ v).setCell ⟨w.heap.size + 1, 1, none⟩ (.int .i64 q')).cell? ⟨w.heap.size + 1, 0, none⟩ = some v ∧
    ((W.setCell ⟨w.heap.size + 1, 0, none⟩ v).setCell ⟨w.heap.size + 1, 1, none⟩ (.int .i64 q')).cell? ⟨w.heap.size + 1, 1, none⟩ = some (.int .i64 q') ∧
    Below w.heap.size w ((W.setCell ⟨w.heap.size + 1, 0, none⟩ v).setCell ⟨w.heap.size + 1, 1, none⟩ (.int .i64 q')) ∧
    StrRow w.heap.size a cap l ((W.setCell ⟨w.heap.size + 1, 0, none⟩ v).setCell ⟨w.heap.size + 1, 1, none⟩ (.int .i64 q')) := by
  obtain ⟨u0, r0⟩ := h.r0
  obtain ⟨u1, r1⟩ := h.r1
  have r1' : (W.setCell ⟨w.heap.size + 1, 0, none⟩ v).cell? ⟨w.heap.size + 1, 1, none⟩ = some u1 := by
    rw [World.cell?_setCell_other _ _ _ _ (by simp), r1]
  refine ⟨?_, ?_, (h.bel.setCell (by show w.heap.size ≤ w.heap.size + 1; omega) v).setCell (by show w.heap.size ≤ w.heap.size + 1; omega) _, ?_⟩
  · rw [World.cell?_setCell_other _ _ _ _ (by simp)]
    exact World.cell?_setCell_same _ _ _ r0
  · exact World.cell?_setCell_same _ _ _ r1'
  · rcases hr with hr | ⟨g, h1, h2, h3, h4, h5, h6⟩
    · exact Or.inl hr
    · refine Or.inr ⟨g, h1, by omega, by simpa [World.setCell] using h3, h4, h5, fun j hj => ?_⟩
      rw [World.cell?_setCell_other _ _ _ _ (by intro e; cases e; omega), World.cell?_setCell_other _ _ _ _ (by intro e; cases e; omega)]
      exact h6 j hj
end Go.Proofs.Ytebdnnfaghhpkaa
