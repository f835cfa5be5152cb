/- ErrseqOnce: what the observers wait for, as lists. -/
import Derived.Test.YtmbhenafiglakaaTape
namespace Go.Proofs.Ytmbhenafiglakaa
open Go.ChangeShapes Go.WideShapes Go.ChangeAt Go.RowKit

/-- what each observer waits for: nothing if its cursor stands at the count, else the last error -/
def wsOf (C E : Int) (cs : List Int) : List Int := cs.map fun c => if c = C then 0 else E
theorem wsOf_len (C E : Int) (cs : List Int) : (wsOf C E cs).length = cs.length := List.length_map _
theorem wsOf_getD (C E : Int) (cs : List Int) (k : Nat) (h : k < cs.length) : (wsOf C E cs).getD k 0 = if cs.getD k 0 = C then 0 else E := by
  unfold wsOf; simp [List.getD, List.getElem?_map, List.getElem?_eq_getElem h]
theorem wsOf_rec {C x : Int} {cs : List Int} (h : ∀ c ∈ cs, c ≤ C) : wsOf (C + 1) x cs = List.replicate cs.length x := by
  unfold wsOf
  rw [List.eq_replicate_iff]
  refine ⟨by simp, ?_⟩
  intro b hb
  obtain ⟨c, hc, rfl⟩ := List.mem_map.1 hb
  have := h c hc
  rw [if_neg (by omega)]
theorem wsOf_add (C E : Int) (cs : List Int) : wsOf C E (cs ++ [C]) = wsOf C E cs ++ [0] := by unfold wsOf; simp
theorem wsOf_set (C E : Int) (cs : List Int) (k : Nat) : wsOf C E (cs.set k C) = (wsOf C E cs).set k 0 := by unfold wsOf; rw [List.map_set]; simp
theorem fill_zero (x : Int) (l : List Int) : List.replicate 0 x ++ l.drop 0 = l := by simp
theorem fill_step (x : Int) (l : List Int) (i : Nat) (h : i < l.length) : (List.replicate i x ++ l.drop i).set i x = List.replicate (i + 1) x ++ l.drop (i + 1) := by
  rw [List.set_append_right _ _ (by simp), List.length_replicate, Nat.sub_self]
  rw [List.drop_eq_getElem_cons h, List.set_cons_zero, List.replicate_succ', List.append_assoc]; rfl
theorem fill_done (x : Int) (l : List Int) : List.replicate l.length x ++ l.drop l.length = List.replicate l.length x := by simp
/-- rows of different kinds lie in different blocks -/
theorem own_apart {w : World} {b1 b2 s1 s2 n1 n2 : Nat} {e1 e2 : TypeId} {v1 v2 : Value} {x1 x2 : List Value} (h1 : w.ownsRow b1 e1 s1 v1 n1 x1) (h2 : w.ownsRow b2 e2 s2 v2 n2 x2) (he : e1 ≠ e2) : v1.ownBlock = none ∨ v1.ownBlock ≠ v2.ownBlock := by
  rcases h1.2 with ⟨rfl, _⟩ | ⟨g, c, cur, rfl, _, hg, _⟩
  · exact Or.inl rfl
  · right
    rcases h2.2 with ⟨rfl, _⟩ | ⟨g', c', cur', rfl, _, hg', _⟩
    · simp [Value.ownBlock]
    · intro h
      obtain rfl : g = g' := by simpa [Value.ownBlock] using h
      rw [hg] at hg'
      simp at hg'
      exact he hg'.2
/-- a cell of an owned row of integers -/
theorem own_cell {w : World} {base : Nat} {e : TypeId} {a : Option Addr} {n c : Nat} {xs : List Int} (h : w.ownsRow base e 1 (.slice a n c) xs.length (xs.map (Value.int .i64))) (k : Nat) (hk : k < xs.length) :
    ∃ g, a = some ⟨g, 0, none⟩ ∧ n = xs.length ∧ base ≤ g ∧ w.cell? ⟨g, k, none⟩ = some (.int .i64 (xs.getD k 0)) ∧ w.frozen? ⟨g, k, none⟩ = false := by
  rcases h.2 with ⟨h1, h2⟩ | ⟨g, cap, cur, h1, hb, _⟩
  · omega
  · simp only [Value.slice.injEq] at h1
    obtain ⟨rfl, rfl, rfl⟩ := h1
    refine ⟨g, rfl, rfl, hb, ?_, h.frozenAt k⟩
    rw [h.cellAt k (by omega)]
    simp [List.getD, List.getElem?_map, List.getElem?_eq_getElem hk]
theorem own_slice {w : World} {base : Nat} {e : TypeId} {s : Nat} {v : Value} {n : Nat} {xs : List Value} (h : w.ownsRow base e s v n xs) : ∃ a c, v = .slice a n c := by
  rcases h.2 with ⟨rfl, rfl⟩ | ⟨g, c, cur, rfl, _⟩
  · exact ⟨_, _, rfl⟩
  · exact ⟨_, _, rfl⟩
theorem own_below {w w' : World} {base B : Nat} {e : TypeId} {size : Nat} {v : Value} {n : Nat} {xs : List Value} (h : w.ownsRow base e size v n xs) (hb : Below B w w') (hB : w.heap.size ≤ B) : w'.ownsRow base e size v n xs := by
  obtain ⟨h1, h2⟩ := h
  refine ⟨h1, ?_⟩
  rcases h2 with h2 | ⟨g, cap, cur, hv, hg, hh, r⟩
  · exact Or.inl h2
  · refine Or.inr ⟨g, cap, cur, hv, hg, ?_, r⟩
    have hlt : g < w.heap.size := by
      rcases Nat.lt_or_ge g w.heap.size with h | h
      · exact h
      · rw [Array.getElem?_eq_none h] at hh; cases hh
    rw [hb.block g (by omega)]; exact hh
end Go.Proofs.Ytmbhenafiglakaa
