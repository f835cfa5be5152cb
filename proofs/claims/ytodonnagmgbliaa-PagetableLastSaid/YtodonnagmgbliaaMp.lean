/- What PagetableLast makes of its list and of its map: plain. -/
import Derived.Test.YtodonnagmgbliaaAwk
namespace Go.Proofs.Ytodonnagmgbliaa
open Go.ChangeShapes Go.WideShapes Go.ChangeAt Go.RowKit

/-- no two entries are of one page -/
def Apart (E : List Ar) : Prop := E.Pairwise (fun a b => ¬ (a.pr = b.pr ∧ a.pa = b.pa))
theorem apart_of_check {l : List Ar} (h : checkV l = true) : Apart l := by
  refine List.Pairwise.imp ?_ (check_pw.1 h).2
  intro a b hab
  rw [lessB_iff] at hab
  omega
theorem Apart.perm {E F : List Ar} (h : Apart E) (hp : E.Perm F) : Apart F := by
  refine hp.pairwise h ?_
  intro a b hab hba
  exact hab ⟨hba.1.symm, hba.2.symm⟩
def notKey (p v : Int) (x : Ar) : Bool := !keyB p v x
theorem apart_other {A B : List Ar} {x : Ar} (h : Apart (A ++ x :: B)) : ∀ y ∈ A ++ B, keyB x.pr x.pa y = false := by
  intro y hy
  unfold Apart at h
  rw [List.pairwise_append] at h
  obtain ⟨h1, h2, h3⟩ := h
  rw [List.pairwise_cons] at h2
  refine decide_eq_false fun hh => ?_
  rcases List.mem_append.1 hy with h4 | h4
  · exact h3 y h4 x (by simp) hh
  · exact h2.1 y h4 ⟨hh.1.symm, hh.2.symm⟩
theorem split_at {E : List Ar} {j : Nat} (hj : j < E.length) : E = E.take j ++ E[j] :: E.drop (j + 1) := by rw [List.getElem_cons_drop, List.take_append_drop]
theorem filter_key {E : List Ar} (h : Apart E) {j : Nat} (hj : j < E.length) {p v : Int} (hk : keyB p v (E.getD j Ar.zero) = true) : E.filter (notKey p v) = E.eraseIdx j := by
  rw [getD_get hj] at hk
  obtain ⟨h1, h2⟩ := of_decide_eq_true hk
  have hs := split_at hj
  have ho := apart_other (by rw [← hs]; exact h)
  rw [h1, h2] at ho
  rw [List.eraseIdx_eq_take_drop_succ]
  conv => lhs; rw [hs]
  rw [List.filter_append, List.filter_cons, if_neg (by unfold notKey; rw [hk]; simp), ← List.filter_append]
  exact List.filter_eq_self.2 (fun y hy => by unfold notKey; rw [ho y hy]; rfl)
theorem filter_none {E : List Ar} {p v : Int} (h : ∀ j, j < E.length → keyB p v (E.getD j Ar.zero) = false) : E.filter (notKey p v) = E := by
  refine List.filter_eq_self.2 fun y hy => ?_
  obtain ⟨t, ht, rfl⟩ := List.mem_iff_getElem.1 hy
  have := h t ht
  rw [getD_get ht] at this
  unfold notKey; rw [this]; rfl
theorem set_perm {E : List Ar} (h : Apart E) {j : Nat} (hj : j < E.length) {e : Ar} (hk : keyB e.pr e.pa (E.getD j Ar.zero) = true) : (E.set j e).Perm (e :: E.filter (notKey e.pr e.pa)) := by
  rw [filter_key h hj hk, List.set_eq_take_append_cons_drop, if_pos hj, List.eraseIdx_eq_take_drop_succ]
  exact List.perm_middle
theorem push_perm {E : List Ar} {e : Ar} (h : ∀ j, j < E.length → keyB e.pr e.pa (E.getD j Ar.zero) = false) : (E ++ [e]).Perm (e :: E.filter (notKey e.pr e.pa)) := by
  rw [filter_none h]
  exact List.perm_append_singleton e E
theorem enter_perm {l : List Ar} {e : Ar} (h : checkV l = true) (hr : rightB e = true) : (enterL l e).Perm (e :: l.filter (notKey e.pr e.pa)) := by
  have hs := checkV_sorted h
  have hp := place_of (e := e) hs
  unfold enterL
  rw [if_pos h, if_pos hr]
  unfold enterP
  refine List.perm_middle.trans (List.Perm.cons _ ?_)
  have h1 : l.filter (notKey e.pr e.pa) = (l.take (placeN l e)).filter (notKey e.pr e.pa) ++ (l.drop (placeN l e)).filter (notKey e.pr e.pa) := by rw [← List.filter_append, List.take_append_drop]
  rw [h1]
  have h2 : (l.take (placeN l e)).filter (notKey e.pr e.pa) = l.take (placeN l e) := List.filter_eq_self.2 fun x hx => by
    obtain ⟨t, ht, rfl⟩ := List.mem_iff_getElem.1 hx
    have ht2 : t < placeN l e ∧ t < l.length := by simp at ht; omega
    have := hp.2.1 t ht2.1
    rw [getD_get ht2.2] at this
    rw [List.getElem_take]
    unfold notKey; rw [key_less this]; rfl
  have h3 : (l.drop (placeN l e)).filter (notKey e.pr e.pa) = (l.drop (placeN l e)).filter (fun x => lessB e x) := by
    refine List.filter_congr fun x hx => ?_
    obtain ⟨t, ht, rfl⟩ := List.mem_iff_getElem.1 hx
    have ht2 : placeN l e + t < l.length := by simp at ht; omega
    have := hp.2.2 (placeN l e + t) (by omega) ht2
    rw [getD_get ht2] at this
    rw [List.getElem_drop]
    unfold notKey
    cases hk : keyB e.pr e.pa l[placeN l e + t] with
    | false => rw [more_of this hk]; rfl
    | true =>
      cases hm : lessB e l[placeN l e + t] with
      | false => rfl
      | true => rw [key_more hm] at hk; cases hk
  rw [h2, h3]
/-- the entry that is found is the one that is held -/
theorem get_held {l : List Ar} {e : Ar} (h : checkV l = true) (he : e ∈ l) : getV l e.pr e.pa = some e := by
  unfold getV
  rw [if_pos h]
  obtain ⟨t, ht, rfl⟩ := List.mem_iff_getElem.1 he
  have hs := split_at ht
  have ho := apart_other (by rw [← hs]; exact apart_of_check h)
  have hh := find_hit (l := l) (f := keyB l[t].pr l[t].pa) (k := t) ht (fun j hj => by
    rw [getD_get (by omega : j < l.length)]
    exact ho _ (List.mem_append.2 (Or.inl (List.mem_iff_getElem.2 ⟨j, by simp; omega, by simp⟩)))) (by rw [getD_get ht]; exact decide_eq_true ⟨rfl, rfl⟩)
  rw [getD_get ht] at hh
  exact hh
/-- the entries of a process from one page on, n of them -/
def spanB (p v : Int) (n : Nat) (x : Ar) : Bool := decide (x.pr = p ∧ v ≤ x.pa ∧ x.pa < v + n)
theorem span_zero (E : List Ar) (p v : Int) : E.filter (fun x => !spanB p v 0 x) = E :=
  List.filter_eq_self.2 fun x _ => by rw [show spanB p v 0 x = false from decide_eq_false (by omega)]; rfl
theorem span_succ (E : List Ar) (p v : Int) (n : Nat) : (E.filter (fun x => !spanB p v n x)).filter (notKey p (v + n)) = E.filter (fun x => !spanB p v (n + 1) x) := by
  rw [List.filter_filter]
  refine List.filter_congr fun x _ => ?_
  unfold notKey keyB spanB
  rw [Bool.eq_iff_iff]
  simp only [Bool.and_eq_true, Bool.not_eq_true', decide_eq_false_iff_not]
  omega
theorem span_zap {l : List Ar} (h : checkV l = true) (p v : Int) (n : Nat) (hn : n ≤ 3) (hv : 0 ≤ v) (hv2 : v ≤ 10) : cutL l (zapB p v n) = l.filter (fun x => !spanB p v n x) := by
  unfold cutL
  rw [if_pos h]
  refine List.filter_congr fun x hx => ?_
  have hr := rightB_iff.1 ((check_pw.1 h).1 x hx)
  have hw : wrap64 (x.pa - (n : Int)) = x.pa - n := IntWalk.wrap64_in _ (by omega)
  unfold zapB spanB
  rw [hw]
  congr 1
  rw [Bool.eq_iff_iff]
  simp only [decide_eq_true_eq]
  omega
end Go.Proofs.Ytodonnagmgbliaa
