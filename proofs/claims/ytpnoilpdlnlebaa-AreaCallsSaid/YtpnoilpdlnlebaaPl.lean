/- Lists of areas, plainly: what is right, and what an area put in makes of them. -/
import Derived.Test.YtpnoilpdlnlebaaMr
namespace Go.Proofs.Ytpnoilpdlnlebaa
open Go.ChangeShapes Go.WideShapes Go.ChangeAt Go.RowKit

/-- one area ends ahead of another -/
def Bef (x y : Ar) : Prop := x.st + x.cn ≤ y.st
structure Good (l : List Ar) : Prop where
  right : ∀ x ∈ l, rightB x = true
  pw : l.Pairwise Bef
theorem right_num {a : Ar} (h : rightB a = true) : 0 ≤ a.st ∧ 1 ≤ a.cn ∧ a.st + a.cn ≤ 64 ∧ 0 ≤ a.pg ∧ a.pg + a.cn ≤ 8 ∧ 0 ≤ a.fi ∧ a.fi < 8 := by
  simpa [rightB] using h
theorem getD_get {l : List Ar} {i : Nat} (h : i < l.length) : l.getD i Ar.zero = l[i] := by simp [List.getD, h]
theorem good_of_check {l : List Ar} (h : checkV l = true) : Good l := by
  have hr := check_right h
  have hr1 : ∀ i (hi : i < l.length), rightB l[i] = true := fun i hi => by rw [← getD_get hi]; exact (hr i hi).1
  refine ⟨fun x hx => ?_, ?_⟩
  · obtain ⟨i, hi, rfl⟩ := List.mem_iff_getElem.1 hx
    exact hr1 i hi
  · rw [List.pairwise_iff_getElem]
    intro i j hi hj hij
    induction j with
    | zero => omega
    | succ j ih =>
      have hn := (hr (j + 1) hj).2
      unfold lastAt at hn
      rw [if_neg (by omega)] at hn
      simp only [Nat.add_sub_cancel] at hn
      rw [getD_get hj, getD_get (by omega : j < l.length)] at hn
      by_cases he : i = j
      · subst he; exact hn
      · have := ih (by omega) (by omega)
        unfold Bef at *
        have := right_num (hr1 j (by omega))
        omega
theorem check_of_good {l : List Ar} (h : Good l) (hl : l.length ≤ 8) : checkV l = true := by
  unfold checkV chkTo
  rw [Bool.and_eq_true]
  refine ⟨List.all_eq_true.2 fun i hi => ?_, decide_eq_true hl⟩
  have hi := List.mem_range.1 hi
  unfold okAt lastAt
  rw [getD_get hi, h.right _ (List.getElem_mem hi), Bool.true_and]
  refine decide_eq_true ?_
  split
  · exact (right_num (h.right _ (List.getElem_mem hi))).1
  · rw [getD_get (by omega : i - 1 < l.length)]
    exact List.pairwise_iff_getElem.1 h.pw (i - 1) i (by omega) hi (by omega)
theorem check_iff {l : List Ar} : checkV l = true ↔ Good l ∧ l.length ≤ 8 := ⟨fun h => ⟨good_of_check h, check_len h⟩, fun h => check_of_good h.1 h.2⟩
theorem Good.tail {x : Ar} {l : List Ar} (h : Good (x :: l)) : Good l := ⟨fun y hy => h.right y (List.mem_cons_of_mem _ hy), (List.pairwise_cons.1 h.pw).2⟩
theorem Good.head {x : Ar} {l : List Ar} (h : Good (x :: l)) : rightB x = true := h.right x List.mem_cons_self
theorem Good.bef {x : Ar} {l : List Ar} (h : Good (x :: l)) : ∀ y ∈ l, Bef x y := (List.pairwise_cons.1 h.pw).1

/-- a put in ahead of the first area that begins behind it -/
def insS (a : Ar) : List Ar → List Ar
  | [] => [a]
  | x :: l => if a.st < x.st then a :: x :: l else x :: insS a l
theorem insS_len (a : Ar) (l : List Ar) : (insS a l).length = l.length + 1 := by
  induction l with
  | nil => rfl
  | cons x l ih => unfold insS; split <;> simp [ih]
theorem mem_insS {a y : Ar} {l : List Ar} : y ∈ insS a l ↔ y = a ∨ y ∈ l := by
  induction l with
  | nil => simp [insS]
  | cons x l ih =>
    unfold insS
    split
    · simp
    · simp [ih]; constructor <;> (intro h; rcases h with h | h | h <;> simp [h])
theorem insS_snoc (a x : Ar) (m : List Ar) : insS a (m ++ [x]) = if m.any (fun y => decide (a.st < y.st)) = true then insS a m ++ [x] else if a.st < x.st then m ++ [a] ++ [x] else m ++ [x] ++ [a] := by
  induction m with
  | nil => simp only [List.nil_append, List.any_nil]; unfold insS; simp [insS]
  | cons y m ih =>
    rw [List.cons_append]
    unfold insS
    by_cases h : a.st < y.st
    · simp [h]
    · simp only [h, if_false, List.any_cons, decide_false, Bool.false_or, ih]
      split
      · rfl
      · split <;> simp
theorem refTo_eq (l : List Ar) (a : Ar) (k : Nat) (hk : k ≤ l.length) : refTo l a k = if (l.take k).any (fun y => decide (a.st < y.st)) = true then (insS a (l.take k), true) else (l.take k, false) := by
  induction k with
  | zero => simp [refTo]
  | succ k ih =>
    have ih := ih (by omega)
    unfold refTo
    rw [ih, List.take_succ_eq_append_getElem (by omega : k < l.length), getD_get (by omega : k < l.length), insS_snoc, List.any_append]
    generalize l[k] = e
    generalize l.take k = m
    cases hm : m.any (fun y => decide (a.st < y.st)) with
    | true => simp
    | false =>
      by_cases he : a.st < e.st
      · simp [he]
      · simp [he]
theorem insS_last {a : Ar} {l : List Ar} (h : l.any (fun y => decide (a.st < y.st)) = false) : insS a l = l ++ [a] := by
  induction l with
  | nil => rfl
  | cons x l ih =>
    rw [List.any_cons, Bool.or_eq_false_iff] at h
    unfold insS
    rw [if_neg (of_decide_eq_false h.1), ih h.2, List.cons_append]
theorem refV_eq (l : List Ar) (a : Ar) : refV l a = insS a l := by
  unfold refV
  rw [refTo_eq l a l.length (Nat.le_refl _), List.take_length]
  cases h : l.any (fun y => decide (a.st < y.st)) with
  | true => simp
  | false => simp [insS_last h]
theorem hit_all {l : List Ar} {a : Ar} (h : hitTo l a l.length = false) : ∀ x ∈ l, ¬ (x.st < a.st + a.cn ∧ a.st < x.st + x.cn) := by
  intro x hx
  unfold hitTo at h
  rw [List.take_length, List.any_eq_false] at h
  have := h x hx
  unfold hitB at this
  simpa using this
theorem hit_of {l : List Ar} {a : Ar} (h : ∀ x ∈ l, ¬ (x.st < a.st + a.cn ∧ a.st < x.st + x.cn)) : hitTo l a l.length = false := by
  unfold hitTo
  rw [List.take_length, List.any_eq_false]
  intro x hx
  unfold hitB
  simpa using h x hx
theorem insS_good {a : Ar} {l : List Ar} (h : Good l) (ha : rightB a = true) (hh : ∀ x ∈ l, ¬ (x.st < a.st + a.cn ∧ a.st < x.st + x.cn)) : Good (insS a l) := by
  refine ⟨fun y hy => ?_, ?_⟩
  · rcases mem_insS.1 hy with rfl | hy
    · exact ha
    · exact h.right y hy
  · have han := right_num ha
    induction l with
    | nil => simp [insS]
    | cons x l ih =>
      have hx := right_num h.head
      have hxh := hh x List.mem_cons_self
      unfold insS
      split
      · rename_i hlt
        refine List.pairwise_cons.2 ⟨fun y hy => ?_, h.pw⟩
        unfold Bef
        rcases List.mem_cons.1 hy with rfl | hy
        · omega
        · have := h.bef y hy
          unfold Bef at this
          omega
      · refine List.pairwise_cons.2 ⟨fun y hy => ?_, ih h.tail fun y hy => hh y (List.mem_cons_of_mem _ hy)⟩
        rcases mem_insS.1 hy with rfl | hy
        · unfold Bef; omega
        · exact h.bef y hy
theorem insAt_eq {a : Ar} {l : List Ar} (h : Good l) (ha : rightB a = true) (hh : ∀ x ∈ l, ¬ (x.st < a.st + a.cn ∧ a.st < x.st + x.cn)) : insAt l (posTo l a l.length) a = insS a l := by
  have han := right_num ha
  unfold posTo
  rw [List.take_length]
  induction l with
  | nil => rfl
  | cons x l ih =>
    have hx := right_num h.head
    have hxh := hh x List.mem_cons_self
    have ih := ih h.tail fun y hy => hh y (List.mem_cons_of_mem _ hy)
    unfold insS
    by_cases hlt : a.st < x.st
    · rw [if_pos hlt]
      have hc : (x :: l).countP (fun y => decide (y.st < a.st)) = 0 := by
        rw [List.countP_eq_zero]
        intro y hy
        have : a.st ≤ y.st := by
          rcases List.mem_cons.1 hy with rfl | hy
          · omega
          · have := h.bef y hy
            unfold Bef at this
            omega
        simpa using this
      rw [hc]
      rfl
    · rw [if_neg hlt]
      have hlt2 : x.st < a.st := by omega
      rw [List.countP_cons_of_pos (by simpa using hlt2)]
      unfold insAt at *
      rw [List.take_succ_cons, List.drop_succ_cons, List.cons_append, ih]
/-- what mapping answers, for the program and for the document -/
theorem mapRV_ok {l : List Ar} {a : Ar} (h : checkV l = true) (ha : rightB a = true) : checkV (mapRV l a).1 = true ∧ (mapRV l a).1.length ≤ l.length + 1 := by
  unfold mapRV
  rw [if_neg (by rw [h]; simp), if_neg (by rw [ha]; simp)]
  split
  · exact ⟨h, Nat.le_succ _⟩
  · rename_i hh
    split
    · exact ⟨h, Nat.le_succ _⟩
    · rename_i h8
      have hh := hit_all (Bool.eq_false_iff.2 hh)
      show checkV (refV l a) = true ∧ (refV l a).length ≤ _
      rw [refV_eq]
      exact ⟨check_of_good (insS_good (good_of_check h) ha hh) (by rw [insS_len]; omega), by rw [insS_len]; omega⟩
theorem map_eq (l : List Ar) (a : Ar) : mapV l a = mapRV l a := by
  unfold mapV mapRV
  split
  · rfl
  · rename_i h
    split
    · rfl
    · rename_i ha
      split
      · rfl
      · rename_i hh
        have h : checkV l = true := by simpa using h
        have ha : rightB a = true := by simpa using ha
        have hl := check_len h
        have hh := hit_all (Bool.eq_false_iff.2 hh)
        rw [refV_eq, insAt_eq (good_of_check h) ha hh]
        by_cases h8 : l.length = 8
        · rw [if_pos h8, if_pos (by omega)]
        · rw [if_neg h8, if_neg (by omega)]
end Go.Proofs.Ytpnoilpdlnlebaa
