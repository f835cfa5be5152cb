/- What keeps a list of entries right: plain. -/
import Derived.Test.YtodonnagmgbliaaYo
namespace Go.Proofs.Ytodonnagmgbliaa
open Go.ChangeShapes Go.WideShapes Go.ChangeAt Go.RowKit

def PW (l : List Ar) : Prop := l.Pairwise (fun a b => lessB a b = true)
theorem sorted_pw {l : List Ar} : Sorted l ↔ PW l := by
  unfold Sorted PW
  rw [List.pairwise_iff_getElem]
  constructor
  · intro h i j hi hj hij
    have := h i j hij hj
    rwa [getD_get hi, getD_get hj] at this
  · intro h i j hij hj
    rw [getD_get (by omega : i < l.length), getD_get hj]
    exact h i j (by omega) hj hij
theorem check_pw {l : List Ar} : checkV l = true ↔ (∀ x ∈ l, rightB x = true) ∧ PW l := by
  rw [checkV_iff, sorted_pw]
  refine and_congr ⟨fun h x hx => ?_, fun h k hk => ?_⟩ Iff.rfl
  · obtain ⟨t, ht, rfl⟩ := List.mem_iff_getElem.1 hx
    rw [← getD_get ht]
    exact h t ht
  · rw [getD_get hk]
    exact h _ (List.getElem_mem hk)
theorem check_enter {l : List Ar} {e : Ar} (h : checkV l = true) : checkV (enterL l e) = true := by
  unfold enterL
  rw [if_pos h]
  by_cases hr : rightB e = true
  · rw [if_pos hr]
    have hp := place_of (e := e) (checkV_sorted h)
    obtain ⟨h1, h2⟩ := check_pw.1 h
    have ht : ∀ a ∈ l.take (placeN l e), lessB a e = true := fun a ha => by
      obtain ⟨t, ht, rfl⟩ := List.mem_iff_getElem.1 ha
      have ht2 : t < placeN l e ∧ t < l.length := by simp at ht; omega
      have := hp.2.1 t ht2.1
      rw [getD_get ht2.2] at this
      rw [List.getElem_take]
      exact this
    refine check_pw.2 ⟨fun x hx => ?_, ?_⟩
    · unfold enterP at hx
      rcases List.mem_append.1 hx with hx | hx
      · exact h1 x (List.mem_of_mem_take hx)
      · rcases List.mem_cons.1 hx with rfl | hx
        · exact hr
        · exact h1 x (List.mem_of_mem_drop (List.mem_filter.1 hx).1)
    · unfold enterP PW
      rw [List.pairwise_append]
      refine ⟨List.Pairwise.sublist (List.take_sublist _ _) h2, ?_, ?_⟩
      · rw [List.pairwise_cons]
        exact ⟨fun a ha => (List.mem_filter.1 ha).2, List.Pairwise.sublist (List.filter_sublist.trans (List.drop_sublist _ _)) h2⟩
      · intro a ha b hb
        rcases List.mem_cons.1 hb with rfl | hb
        · exact ht a ha
        · exact lessB_trans (ht a ha) (List.mem_filter.1 hb).2
  · rw [if_neg hr]
    exact h
theorem check_filter {l : List Ar} (g : Ar → Bool) (h : checkV l = true) : checkV (l.filter g) = true := by
  obtain ⟨h1, h2⟩ := check_pw.1 h
  exact check_pw.2 ⟨fun x hx => h1 x (List.mem_filter.1 hx).1, List.Pairwise.sublist List.filter_sublist h2⟩
theorem check_cut {l : List Ar} (g : Ar → Bool) (h : checkV l = true) : checkV (cutL l g) = true := by
  unfold cutL
  rw [if_pos h]
  exact check_filter _ h
theorem check_map {l : List Ar} {F : Ar → Ar} (hF : ∀ x, (F x).pr = x.pr ∧ (F x).pa = x.pa ∧ (F x).fr = x.fr) (h : checkV l = true) : checkV (l.map F) = true := by
  obtain ⟨h1, h2⟩ := check_pw.1 h
  refine check_pw.2 ⟨fun x hx => ?_, ?_⟩
  · obtain ⟨y, hy, rfl⟩ := List.mem_map.1 hx
    have := h1 y hy
    unfold rightB at this ⊢
    rw [(hF y).1, (hF y).2.1, (hF y).2.2]
    exact this
  · unfold PW at *
    rw [List.pairwise_map]
    refine List.Pairwise.imp ?_ h2
    intro a b hab
    unfold lessB at hab ⊢
    rw [(hF a).1, (hF a).2.1, (hF b).1, (hF b).2.1]
    exact hab
theorem proF_keys (f : Int) (x : Ar) : (proF f x).pr = x.pr ∧ (proF f x).pa = x.pa ∧ (proF f x).fr = x.fr := by unfold proF; split <;> exact ⟨rfl, rfl, rfl⟩
theorem youF_keys (f : Int) (x : Ar) : (youF f x).pr = x.pr ∧ (youF f x).pa = x.pa ∧ (youF f x).fr = x.fr := by unfold youF; split <;> exact ⟨rfl, rfl, rfl⟩
end Go.Proofs.Ytodonnagmgbliaa
