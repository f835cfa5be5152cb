/- What entering makes of a list of entries: plain. -/
import Derived.Test.YtodonnagmgbliaaGt
import Derived.Test.YtodonnagmgbliaaIg
namespace Go.Proofs.Ytodonnagmgbliaa
open Go.ChangeShapes Go.WideShapes Go.ChangeAt Go.RowKit

def placeN (l : List Ar) (e : Ar) : Nat := (l.takeWhile (fun x => lessB x e)).length
def enterP (l : List Ar) (e : Ar) : List Ar := l.take (placeN l e) ++ e :: (l.drop (placeN l e)).filter (fun x => lessB e x)
def enterL (l : List Ar) (e : Ar) : List Ar := if checkV l = true then (if rightB e = true then enterP l e else l) else l
def enterE (l : List Ar) (e : Ar) : Int := if checkV l = true then (if rightB e = true then 0 else 2) else 1
theorem getD_get {l : List Ar} {j : Nat} (h : j < l.length) : l.getD j Ar.zero = l[j] := by simp [List.getD, h]
theorem place_eq {l : List Ar} {e : Ar} : ∀ {i : Nat}, Place l e i → placeN l e = i := by
  induction l with
  | nil => intro i h; have := h.1; simp at this; subst this; rfl
  | cons x r ih =>
    intro i h
    cases i with
    | zero =>
      have h2 := h.2.2 0 (Nat.le_refl _) (by simp)
      have h2 : lessB x e = false := h2
      simp [placeN, List.takeWhile, h2]
    | succ k =>
      have h2 : lessB x e = true := h.2.1 0 (by omega)
      have h3 : Place r e k := ⟨by have := h.1; simp at this; omega, fun t ht => by have := h.2.1 (t + 1) (by omega); simpa using this, fun t h4 h5 => by have := h.2.2 (t + 1) (by omega) (by simpa using h5); simpa using this⟩
      have := ih h3
      simp only [placeN, List.takeWhile, h2, List.length_cons] at *
      omega
theorem place_of {l : List Ar} {e : Ar} (hs : Sorted l) : Place l e (placeN l e) := by
  have hle : placeN l e ≤ l.length := by unfold placeN; exact (List.takeWhile_prefix _).length_le
  have h1 : ∀ (m : List Ar) t, t < (m.takeWhile (fun x => lessB x e)).length → lessB (m.getD t Ar.zero) e = true := by
    intro m
    induction m with
    | nil => intro t ht; simp at ht
    | cons x r ih =>
      intro t ht
      cases hx : lessB x e with
      | false => simp [List.takeWhile, hx] at ht
      | true =>
        simp only [List.takeWhile, hx, List.length_cons] at ht
        cases t with
        | zero => exact hx
        | succ t => simpa using ih t (by omega)
  have h2 : ∀ (m : List Ar), (m.takeWhile (fun x => lessB x e)).length < m.length → lessB (m.getD (m.takeWhile (fun x => lessB x e)).length Ar.zero) e = false := by
    intro m
    induction m with
    | nil => intro h; simp at h
    | cons x r ih =>
      intro h
      cases hx : lessB x e with
      | false => simp [List.takeWhile, hx]
      | true =>
        simp only [List.takeWhile, hx, List.length_cons] at h ⊢
        simpa using ih (by omega)
  refine ⟨hle, h1 l, fun t h3 h4 => ?_⟩
  have h5 := h2 l (by unfold placeN at h3; omega)
  by_cases he : t = placeN l e
  · rw [he]; exact h5
  · cases hh : lessB (l.getD t Ar.zero) e with
    | false => rfl
    | true =>
      have := lessB_trans (hs (placeN l e) t (by omega) h4) hh
      unfold placeN at this
      rw [h5] at this
      cases this
/-- what is not ahead of e and has another key is behind it -/
theorem more_of {x e : Ar} (h1 : lessB x e = false) (h2 : keyB e.pr e.pa x = false) : lessB e x = true := by
  have h3 := of_decide_eq_false h2
  rw [lessB_iff]
  have h4 : ¬ (x.pr < e.pr ∨ x.pr = e.pr ∧ x.pa < e.pa) := fun hh => by rw [lessB_iff.2 hh] at h1; cases h1
  omega
theorem same_key {x e : Ar} (h : keyB e.pr e.pa x = true) : x.pr = e.pr ∧ x.pa = e.pa := of_decide_eq_true h
theorem less_key {x y e : Ar} (h : keyB e.pr e.pa x = true) : lessB x y = lessB e y := by
  obtain ⟨h1, h2⟩ := same_key h
  unfold lessB; rw [h1, h2]
theorem enter_found {l : List Ar} {e : Ar} {i : Nat} (hs : Sorted l) (h : Place l e i) (hf : foundB l e i = true) : i < l.length ∧ enterP l e = l.set i e := by
  unfold foundB at hf
  rw [Bool.and_eq_true] at hf
  have hi := of_decide_eq_true hf.1
  have hk : keyB e.pr e.pa (l.getD i Ar.zero) = true := hf.2
  refine ⟨hi, ?_⟩
  unfold enterP
  rw [place_eq h, List.set_eq_take_append_cons_drop, if_pos hi]
  congr 2
  rw [← List.getElem_cons_drop hi, List.filter_cons]
  rw [getD_get hi] at hk
  have h1 : lessB e l[i] = false := by
    rw [← less_key (y := l[i]) hk]
    cases hh : lessB l[i] l[i] with
    | false => rfl
    | true => rw [lessB_iff] at hh; omega
  rw [h1, if_neg (by simp)]
  refine List.filter_eq_self.2 fun x hx => ?_
  obtain ⟨t, ht, rfl⟩ := List.mem_iff_getElem.1 hx
  have ht2 : i + 1 + t < l.length := by simp at ht; omega
  rw [List.getElem_drop]
  have h2 := hs i (i + 1 + t) (by omega) ht2
  rw [getD_get hi, getD_get ht2, less_key hk] at h2
  exact h2
theorem enter_new {l : List Ar} {e : Ar} {i : Nat} (hs : Sorted l) (h : Place l e i) (hf : foundB l e i = false) : enterP l e = insAt l i e := by
  unfold enterP insAt
  rw [place_eq h]
  congr 2
  refine List.filter_eq_self.2 fun x hx => ?_
  obtain ⟨t, ht, rfl⟩ := List.mem_iff_getElem.1 hx
  have ht2 : i + t < l.length := by simp at ht; omega
  have hi : i < l.length := by omega
  rw [List.getElem_drop]
  unfold foundB at hf
  rw [decide_eq_true hi, Bool.true_and] at hf
  have h1 : lessB e (l.getD i Ar.zero) = true := more_of (h.2.2 i (Nat.le_refl _) hi) hf
  by_cases h0 : t = 0
  · subst h0
    rw [getD_get hi] at h1
    exact h1
  · have h2 := hs i (i + t) (by omega) ht2
    have := lessB_trans h1 h2
    rw [getD_get ht2] at this
    exact this
theorem enterP_len {l : List Ar} {e : Ar} : (enterP l e).length ≤ l.length + 1 := by
  unfold enterP
  have h1 := List.length_filter_le (fun x => lessB e x) (l.drop (placeN l e))
  simp only [List.length_append, List.length_cons, List.length_take, List.length_drop] at *
  omega
theorem enterL_len {l : List Ar} {e : Ar} : (enterL l e).length ≤ l.length + 1 := by
  unfold enterL
  split
  · split
    · exact enterP_len
    · omega
  · omega
/-- the list that the document builds, and whether e has been placed, behind k elements -/
def refTo (l : List Ar) (e : Ar) : Nat → List Ar × Bool
  | 0 => ([], false)
  | k + 1 => ((if (!(refTo l e k).2 && !lessB (l.getD k Ar.zero) e) = true then (refTo l e k).1 ++ [e] else (refTo l e k).1) ++ (if (lessB (l.getD k Ar.zero) e || lessB e (l.getD k Ar.zero)) = true then [l.getD k Ar.zero] else []), (refTo l e k).2 || !lessB (l.getD k Ar.zero) e)
def refV (l : List Ar) (e : Ar) : List Ar := if (refTo l e l.length).2 = true then (refTo l e l.length).1 else (refTo l e l.length).1 ++ [e]
theorem refTo_len (l : List Ar) (a : Ar) (k : Nat) : (refTo l a k).1.length ≤ 2 * k := by
  induction k with
  | zero => simp [refTo]
  | succ k ih =>
    unfold refTo
    simp only [List.length_append]
    split <;> split <;> simp <;> omega
theorem take_succ_get {l : List Ar} {k : Nat} (h : k < l.length) : l.take (k + 1) = l.take k ++ [l[k]] := by simp
theorem refTo_lo {l : List Ar} {e : Ar} {i : Nat} (h : Place l e i) : ∀ k, k ≤ i → refTo l e k = (l.take k, false) := by
  intro k
  induction k with
  | zero => intro _; rfl
  | succ k ih =>
    intro hk
    have hk2 : k < l.length := by have := h.1; omega
    have h1 := h.2.1 k (by omega)
    unfold refTo
    rw [ih (by omega), h1, getD_get hk2, take_succ_get hk2]
    simp
theorem refTo_hi {l : List Ar} {e : Ar} {i : Nat} (h : Place l e i) : ∀ d, i + d + 1 ≤ l.length → refTo l e (i + d + 1) = (l.take i ++ e :: ((l.drop i).take (d + 1)).filter (fun x => lessB e x), true) := by
  intro d
  induction d with
  | zero =>
    intro hd
    have hi : i < l.length := by omega
    have h1 := h.2.2 i (Nat.le_refl _) hi
    show refTo l e (i + 1) = _
    unfold refTo
    rw [refTo_lo h i (Nat.le_refl _), h1, getD_get hi]
    have h2 : (l.drop i).take (0 + 1) = [l[i]] := by rw [← List.getElem_cons_drop hi]; rfl
    rw [h2]
    cases hb : lessB e l[i] <;> simp [hb]
  | succ d ih =>
    intro hd
    have hi : i + d + 1 < l.length := by omega
    have h1 := h.2.2 (i + d + 1) (by omega) hi
    show refTo l e (i + d + 1 + 1) = _
    unfold refTo
    rw [ih (by omega), h1, getD_get hi]
    have h2 : (l.drop i).take (d + 1 + 1) = (l.drop i).take (d + 1) ++ [l[i + d + 1]] := by
      rw [take_succ_get (by simp; omega)]
      congr 2
      rw [List.getElem_drop]
      congr 1
    rw [h2, List.filter_append]
    cases hb : lessB e l[i + d + 1] <;> simp [hb]
theorem refV_eq {l : List Ar} {e : Ar} (hs : Sorted l) : refV l e = enterP l e := by
  have h := place_of (e := e) hs
  unfold refV enterP
  by_cases hi : placeN l e = l.length
  · rw [hi] at h ⊢
    rw [refTo_lo h l.length (Nat.le_refl _)]
    simp
  · have hle := h.1
    have h2 := refTo_hi h (l.length - placeN l e - 1) (by omega)
    rw [show placeN l e + (l.length - placeN l e - 1) + 1 = l.length from by omega] at h2
    rw [h2]
    simp only [if_true]
    congr 3
    rw [List.take_of_length_le (by simp; omega)]
theorem Shp.new (w : World) (s c f : Int) (p b : Bool) : Shp (w.alloc (.cells #[.int .i64 s, .int .i64 c, .int .i64 f, .bool p, .bool b] 30)) w.heap.size := by
  constructor
  · simp only [World.shape?]
    rw [heap_alloc_new]
    rfl
  · intro o
    exact World.frozen?_alloc_at (w := w) _ _ _ o rfl
theorem insert_any {l : List Ar} (x : Ar) (hl : l.length ≤ 100) (i : Nat) (hi : i ≤ l.length) (B : Nat) (b : Option Addr) (c vb : Nat) (W : World) (ho : W.ownsRow B 30 5 (.slice b l.length c) l.length (flat l)) (hB : B ≤ W.heap.size) (hv : Blk W vb x) (hs : Shp W vb) (hne : ∀ q, (Value.slice b l.length c).ownBlock = some q → q ≠ vb) :
    Calls Try.prog 35 #[.slice b l.length c, .int .i64 i, .slice (some ⟨vb, 0, none⟩) 1 1] W (InsPost B l i x W) := by
  by_cases h : i = l.length
  · subst h
    exact insert_end B b c l x vb W ho hB hl ⟨hv.c0, hv.c1, hv.c2, hv.c3, hv.c4⟩
  · have hi : i < l.length := by omega
    rcases ho.2 with ⟨hn, hn2⟩ | ⟨g, c', cur, hg, _, _, hg3, _⟩
    · omega
    · cases hg
      have hne2 : vb ≠ g := fun e => hne g rfl e.symm
      by_cases hc : c = l.length
      · exact insert_grow B g c _ vb l x W ho hB hl hi hc hv
      · exact insert_shift B g c _ vb l x W ho hl hi (by omega) hv hs hne2
end Go.Proofs.Ytodonnagmgbliaa
