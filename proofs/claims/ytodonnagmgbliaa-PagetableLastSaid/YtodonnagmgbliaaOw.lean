/- Rows of one's own: stores into them. -/
import Derived.Test.YtodonnagmgbliaaPl
namespace Go.Proofs.Ytodonnagmgbliaa
open Go.ChangeShapes Go.WideShapes Go.ChangeAt Go.RowKit

theorem Blk.belowB {w w' : World} {g B : Nat} {a : Ar} (h : Blk w g a) (hb : Below B w w') (hg : g < B) : Blk w' g a :=
  ⟨Nat.lt_of_lt_of_le h.hi hb.size, by rw [hb.cell hg]; exact h.c0, by rw [hb.cell hg]; exact h.c1, by rw [hb.cell hg]; exact h.c2, by rw [hb.cell hg]; exact h.c3, by rw [hb.cell hg]; exact h.c4, fun i hi => by rw [hb.frozen hg]; exact h.f i hi⟩
theorem cells_at {w : World} {g : Nat} {s c f : Int} {p b : Bool} (h : Blk w g ⟨s, c, f, p, b⟩) (j : Nat) (u : Value) (hj : [Value.int .i64 s, .int .i64 c, .int .i64 f, .bool p, .bool b][j]? = some u) : w.cell? ⟨g, 0 + j, none⟩ = some u := by
  have hj5 : j < 5 := by simpa using (List.getElem?_eq_some_iff.1 hj).1
  have h5 : j = 0 ∨ j = 1 ∨ j = 2 ∨ j = 3 ∨ j = 4 := by omega
  rcases h5 with rfl | rfl | rfl | rfl | rfl <;> simp at hj <;> subst hj
  · exact h.c0
  · exact h.c1
  · exact h.c2
  · exact h.c3
  · exact h.c4
theorem own_drewN {w : World} {B : Nat} {e : TypeId} {size n : Nat} {v : Value} {xs : List Value} (h : w.ownsRow B e size v n xs) (q : Nat) : (w.drewN q).ownsRow B e size v n xs := h
theorem ARow.ofOwn' {B : Nat} {a : Option Addr} {cap : Nat} {l : List Ar} {w : World} (h : w.ownsRow B 30 5 (.slice a l.length cap) l.length (flat l)) : ARow B a cap l w := by
  obtain ⟨a', c', he, _, hr⟩ := ARow.ofOwn h
  simp only [Value.slice.injEq] at he
  obtain ⟨rfl, _, rfl⟩ := he
  exact hr
theorem own_tock {w w' : World} {B t : Nat} {e : TypeId} {size n : Nat} {v : Value} {xs : List Value} (h : w.ownsRow B e size v n xs) (hk : Tock t w w') (ht : t < B) : w'.ownsRow B e size v n xs := by
  refine ⟨h.1, ?_⟩
  rcases h.2 with hn | ⟨g, cap, cur, rfl, hg, hgg, rest⟩
  · exact Or.inl hn
  · exact Or.inr ⟨g, cap, cur, rfl, hg, by rw [hk.block g (by omega) (Array.getElem?_eq_some_iff.1 hgg).1]; exact hgg, rest⟩
theorem own_cel {w : World} {B g cap : Nat} {l : List Ar} (h : w.ownsRow B 30 5 (.slice (some ⟨g, 0, none⟩) l.length cap) l.length (flat l)) (i : Nat) (hi : i < l.length) : Cel w g (i * 5) (l.getD i Ar.zero) := by
  obtain ⟨a', c', he, _, hr⟩ := ARow.ofOwn h
  simp only [Value.slice.injEq] at he
  obtain ⟨rfl, _, rfl⟩ := he
  obtain ⟨g2, h1, _, _, _, _, h6⟩ := hr.at (by omega)
  cases h1
  exact h6 i hi
theorem own_set {w : World} {B g cap : Nat} {l : List Ar} (h : w.ownsRow B 30 5 (.slice (some ⟨g, 0, none⟩) l.length cap) l.length (flat l)) (i : Nat) (hi : i < l.length) (o : Nat) (ho : o < 5) (u : Value) (x : Ar) (hx : x.cells = (l.getD i Ar.zero).cells.set o u) :
    (w.setCell ⟨g, i * 5 + o, none⟩ u).ownsRow B 30 5 (.slice (some ⟨g, 0, none⟩) l.length cap) (l.set i x).length (flat (l.set i x)) := by
  have hs := (h.stored (i * 5 + o) u).1
  have he : (flat l).set (i * 5 + o) u = flat (l.set i x) := by
    have h1 : l = l.take i ++ l[i] :: l.drop (i + 1) := by rw [List.getElem_cons_drop, List.take_append_drop]
    have h2 : l.set i x = l.take i ++ x :: l.drop (i + 1) := List.set_eq_take_append_cons_drop.trans (if_pos hi)
    have hl : (flat (l.take i)).length = i * 5 := by rw [flat_len, List.length_take]; congr 1; omega
    have hc : l[i].cells.length = 5 := rfl
    rw [h2, show flat (l.take i ++ x :: l.drop (i + 1)) = flat (l.take i) ++ (x.cells ++ flat (l.drop (i + 1))) from by rw [flat_append]; rfl]
    rw [getD_get hi] at hx
    conv => lhs; arg 1; rw [h1]
    rw [show flat (l.take i ++ l[i] :: l.drop (i + 1)) = flat (l.take i) ++ (l[i].cells ++ flat (l.drop (i + 1))) from by rw [flat_append]; rfl]
    rw [List.set_append_right _ _ (by omega), hl, Nat.add_sub_cancel_left, List.set_append_left _ _ (by omega), ← hx]
  rw [he] at hs
  rw [List.length_set]
  exact hs
theorem ownsRow_below {w w' : World} {B : Nat} {e : TypeId} {size n : Nat} {v : Value} {xs : List Value} (h : w.ownsRow B e size v n xs) (hb : Below w.heap.size w w') : w'.ownsRow B e size v n xs := by
  refine ⟨h.1, ?_⟩
  rcases h.2 with hn | ⟨g, cap, cur, rfl, hg, hgg, rest⟩
  · exact Or.inl hn
  · exact Or.inr ⟨g, cap, cur, rfl, hg, by rw [hb.block g (Array.getElem?_eq_some_iff.1 hgg).1]; exact hgg, rest⟩
/-- an entry laid at offset o of block g -/
def putAt (W : World) (g o : Nat) (s c f : Int) (p b : Bool) : World :=
  ((((W.setCell ⟨g, o, none⟩ (.int .i64 s)).setCell ⟨g, o + 1, none⟩ (.int .i64 c)).setCell ⟨g, o + 2, none⟩ (.int .i64 f)).setCell ⟨g, o + 3, none⟩ (.bool p)).setCell ⟨g, o + 4, none⟩ (.bool b)
theorem putAt_below {B : Nat} (W : World) (g o : Nat) (s c f : Int) (p b : Bool) (h : B ≤ g) : Below B W (putAt W g o s c f p b) :=
  (((((Below.refl B W).setCell (p := ⟨g, o, none⟩) h _).setCell (p := ⟨g, o + 1, none⟩) h _).setCell (p := ⟨g, o + 2, none⟩) h _).setCell (p := ⟨g, o + 3, none⟩) h _).setCell (p := ⟨g, o + 4, none⟩) h _
theorem own_set2 {w : World} {B g cap n : Nat} {l : List Ar} (h : w.ownsRow B 30 5 (.slice (some ⟨g, 0, none⟩) n cap) n (flat l)) (hn : l.length = n) (i : Nat) (hi : i < n) (o : Nat) (ho : o < 5) (u : Value) (x : Ar) (hx : x.cells = (l.getD i Ar.zero).cells.set o u) :
    (w.setCell ⟨g, i * 5 + o, none⟩ u).ownsRow B 30 5 (.slice (some ⟨g, 0, none⟩) n cap) n (flat (l.set i x)) := by
  subst hn
  have := own_set h i hi o ho u x hx
  rwa [List.length_set] at this
theorem own_put {w : World} {B g cap n : Nat} {l : List Ar} (h : w.ownsRow B 30 5 (.slice (some ⟨g, 0, none⟩) n cap) n (flat l)) (hn : l.length = n) (i : Nat) (hi : i < n) (s c f : Int) (p b : Bool) :
    (putAt w g (i * 5) s c f p b).ownsRow B 30 5 (.slice (some ⟨g, 0, none⟩) n cap) n (flat (l.set i ⟨s, c, f, p, b⟩)) := by
  generalize hx : l.getD i Ar.zero = x
  have gs : ∀ y : Ar, (l.set i y).getD i Ar.zero = y := fun y => by rw [getD_get (by rw [List.length_set]; omega)]; simp
  have h1 := own_set2 h hn i hi 0 (by omega) (.int .i64 s) ⟨s, x.pa, x.fr, x.wr, x.ac⟩ (by rw [hx]; rfl)
  have h2 := own_set2 h1 (by rw [List.length_set]; exact hn) i hi 1 (by omega) (.int .i64 c) ⟨s, c, x.fr, x.wr, x.ac⟩ (by rw [gs]; rfl)
  rw [List.set_set] at h2
  have h3 := own_set2 h2 (by rw [List.length_set]; exact hn) i hi 2 (by omega) (.int .i64 f) ⟨s, c, f, x.wr, x.ac⟩ (by rw [gs]; rfl)
  rw [List.set_set] at h3
  have h4 := own_set2 h3 (by rw [List.length_set]; exact hn) i hi 3 (by omega) (.bool p) ⟨s, c, f, p, x.ac⟩ (by rw [gs]; rfl)
  rw [List.set_set] at h4
  have h5 := own_set2 h4 (by rw [List.length_set]; exact hn) i hi 4 (by omega) (.bool b) ⟨s, c, f, p, b⟩ (by rw [gs]; rfl)
  rw [List.set_set] at h5
  exact h5
end Go.Proofs.Ytodonnagmgbliaa
