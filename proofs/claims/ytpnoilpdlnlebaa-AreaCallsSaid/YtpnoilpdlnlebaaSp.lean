/- The pages that show a page of a file, plainly. -/
import Derived.Test.YtpnoilpdlnlebaaAs
namespace Go.Proofs.Ytpnoilpdlnlebaa
open Go.ChangeShapes Go.WideShapes Go.ChangeAt Go.RowKit

theorem find_mem {l : List Ar} {a : Ar} {p : Int} (h : Good l) (ha : a ∈ l) (hi : inB p a = true) : l.find? (inB p) = some a := by
  induction l with
  | nil => cases ha
  | cons x l ih =>
    rw [List.find?_cons]
    rcases List.mem_cons.1 ha with rfl | ha
    · rw [hi]
    · have hb := h.bef a ha
      have hn : inB p x = false := by
        unfold inB at *
        have := of_decide_eq_true hi
        unfold Bef at hb
        exact decide_eq_false (by omega)
      rw [hn]
      exact ih h.tail ha
theorem find_iff {l : List Ar} {a : Ar} {p : Int} (h : checkV l = true) : findV l p = some a ↔ a ∈ l ∧ inB p a = true := by
  unfold findV
  rw [if_pos h]
  exact ⟨fun he => ⟨List.mem_of_find?_eq_some he, List.find?_some he⟩, fun he => find_mem (good_of_check h) he.1 he.2⟩
theorem asc_ext : ∀ (x y : List Int), x.Pairwise (· < ·) → y.Pairwise (· < ·) → (∀ z, z ∈ x ↔ z ∈ y) → x = y
  | [], [], _, _, _ => rfl
  | [], b :: y, _, _, h => absurd ((h b).2 List.mem_cons_self) (by simp)
  | a :: x, [], _, _, h => absurd ((h a).1 List.mem_cons_self) (by simp)
  | a :: x, b :: y, hx, hy, h => by
    have hx := List.pairwise_cons.1 hx
    have hy := List.pairwise_cons.1 hy
    have h1 := (h a).1 List.mem_cons_self
    have h2 := (h b).2 List.mem_cons_self
    have hab : a = b := by
      rcases List.mem_cons.1 h1 with e | m1
      · exact e
      · rcases List.mem_cons.1 h2 with e | m2
        · exact e.symm
        · have := hy.1 a m1; have := hx.1 b m2; omega
    subst hab
    rw [asc_ext x y hx.2 hy.2 fun z => ⟨fun hz => ?_, fun hz => ?_⟩]
    · rcases List.mem_cons.1 ((h z).1 (List.mem_cons_of_mem _ hz)) with e | m
      · have := hx.1 z hz; omega
      · exact m
    · rcases List.mem_cons.1 ((h z).2 (List.mem_cons_of_mem _ hz)) with e | m
      · have := hy.1 z hz; omega
      · exact m
/-- page i shows page p of file f -/
def hitP (l : List Ar) (f p : Int) (i : Nat) : Bool := (findV l i).isSome && (decide ((optA (findV l i)).fi = f) && decide ((optA (findV l i)).pg + i - (optA (findV l i)).st = p))
theorem hitP_iff {l : List Ar} {f p : Int} {i : Nat} (h : checkV l = true) : hitP l f p i = true ↔ ∃ a ∈ l, inB i a = true ∧ a.fi = f ∧ a.pg + i - a.st = p := by
  unfold hitP
  constructor
  · intro hh
    cases hf : findV l i with
    | none => rw [hf] at hh; simp at hh
    | some a =>
      rw [hf] at hh
      obtain ⟨h1, h2⟩ := (find_iff h).1 hf
      obtain ⟨_, hh⟩ := Bool.and_eq_true_iff.1 hh
      obtain ⟨h3, h4⟩ := Bool.and_eq_true_iff.1 hh
      exact ⟨a, h1, h2, of_decide_eq_true h3, of_decide_eq_true h4⟩
  · rintro ⟨a, h1, h2, h3, h4⟩
    rw [(find_iff h).2 ⟨h1, h2⟩]
    simp [optA, h3, h4]
def cntTo (l : List Ar) (f p : Int) (k : Nat) : Nat := ((List.range k).filter (hitP l f p)).length
theorem cntTo_succ (l : List Ar) (f p : Int) (k : Nat) : cntTo l f p (k + 1) = cntTo l f p k + if hitP l f p k = true then 1 else 0 := by
  unfold cntTo
  rw [List.range_succ, List.filter_append, List.length_append]
  cases h : hitP l f p k <;> simp [h]
theorem shown_asc {l : List Ar} (f p : Int) (h : Good l) : (((l.filter (showB f p)).map fun a => a.st + p - a.pg) : List Int).Pairwise (· < ·) := by
  induction l with
  | nil => simp
  | cons x l ih =>
    rw [List.filter_cons]
    split
    · rename_i hx
      rw [List.map_cons]
      refine List.pairwise_cons.2 ⟨fun z hz => ?_, ih h.tail⟩
      obtain ⟨y, hy, rfl⟩ := List.mem_map.1 hz
      obtain ⟨hy, hsy⟩ := List.mem_filter.1 hy
      have hb := h.bef y hy
      unfold showB at hx hsy
      have h1 := of_decide_eq_true hx
      have h2 := of_decide_eq_true hsy
      unfold Bef at hb
      omega
    · exact ih h.tail
theorem shown_eq {l : List Ar} (f p : Int) (h : checkV l = true) : shownV l f p = ((List.range 64).filter (hitP l f p)).map Int.ofNat := by
  have hg := good_of_check h
  unfold shownV shownTo
  rw [if_pos h, List.take_length]
  refine asc_ext _ _ (shown_asc f p hg) ?_ fun z => ?_
  · rw [List.pairwise_map]
    refine List.Pairwise.filter _ ?_
    exact List.pairwise_lt_range.imp fun h => Int.ofNat_lt.2 h
  · rw [List.mem_map, List.mem_map]
    constructor
    · rintro ⟨a, ha, rfl⟩
      obtain ⟨ha, hs⟩ := List.mem_filter.1 ha
      have hr := right_num (hg.right a ha)
      unfold showB at hs
      have hs := of_decide_eq_true hs
      refine ⟨(a.st + p - a.pg).toNat, List.mem_filter.2 ⟨List.mem_range.2 (by omega), (hitP_iff h).2 ⟨a, ha, ?_, hs.1, ?_⟩⟩, ?_⟩
      · unfold inB; exact decide_eq_true (by omega)
      · omega
      · show ((a.st + p - a.pg).toNat : Int) = _
        omega
    · rintro ⟨i, hi, rfl⟩
      obtain ⟨a, ha, hin, hf, hp⟩ := (hitP_iff h).1 (List.mem_filter.1 hi).2
      unfold inB at hin
      have hin := of_decide_eq_true hin
      refine ⟨a, List.mem_filter.2 ⟨ha, ?_⟩, ?_⟩
      · unfold showB; exact decide_eq_true ⟨hf, by omega, by omega⟩
      · show _ = (i : Int)
        omega
theorem shown_len {l : List Ar} (f p : Int) (h : checkV l = true) : (shownV l f p).length = cntTo l f p 64 := by
  rw [shown_eq f p h, List.length_map]; rfl
theorem range_split (k : Nat) (hk : k < 64) : List.range 64 = List.range k ++ k :: (List.range' (k + 1) (63 - k)) := by
  have h := List.range'_append_1 (s := 0) (m := k) (n := 64 - k)
  rw [show k + (64 - k) = 64 from by omega, ← List.range_eq_range', ← List.range_eq_range', show 64 - k = (63 - k) + 1 from by omega, List.range'_succ, Nat.zero_add] at h
  exact h.symm
theorem shown_at {l : List Ar} {f p : Int} {k : Nat} (h : checkV l = true) (hk : k < 64) (hh : hitP l f p k = true) : cntTo l f p k < (shownV l f p).length ∧ (shownV l f p).getD (cntTo l f p k) 0 = k := by
  rw [shown_eq f p h, range_split k hk, List.filter_append, List.filter_cons_of_pos hh, List.map_append, List.map_cons]
  unfold cntTo
  constructor
  · simp
  · simp [List.getD]
end Go.Proofs.Ytpnoilpdlnlebaa
