/- Room, mapping and unmapping, plainly. -/
import Derived.Test.YtpnoilpdlnlebaaSm
namespace Go.Proofs.Ytpnoilpdlnlebaa
open Go.ChangeShapes Go.WideShapes Go.ChangeAt Go.RowKit

/-- no area of l meets a -/
def Free (l : List Ar) (s n : Int) : Prop := ∀ x ∈ l, ¬ (x.st < s + n ∧ s < x.st + x.cn)
theorem within_num {s c m : Int} (h : withinB s c m = true) : 0 ≤ s ∧ 1 ≤ c ∧ s + c ≤ m := by
  unfold withinB at h
  have := of_decide_eq_true h
  omega
theorem within_of {s c m : Int} (h0 : 0 ≤ s) (h1 : 1 ≤ c) (h2 : s + c ≤ m) : withinB s c m = true := by
  unfold withinB
  exact decide_eq_true (by omega)
theorem good_lt {l : List Ar} (h : Good l) {i j : Nat} (hij : i < j) (hj : j < l.length) : (l.getD i Ar.zero).st + (l.getD i Ar.zero).cn ≤ (l.getD j Ar.zero).st := by
  rw [getD_get hj, getD_get (by omega : i < l.length)]
  exact List.pairwise_iff_getElem.1 h.pw i j (by omega) hj hij
theorem room_free {l : List Ar} {n p : Int} (h : checkV l = true) (hr : roomV l n = (p, true)) : 0 ≤ p ∧ 1 ≤ n ∧ p + n ≤ 64 ∧ Free l p n := by
  have hg := good_of_check h
  unfold roomV at hr
  split at hr
  · rename_i hc
    simp only [Prod.mk.injEq, and_true] at hr
    have hw := within_num hc.2
    rw [hr] at hw
    refine ⟨hw.1, hw.2.1, hw.2.2, fun x hx => ?_⟩
    obtain ⟨j, hj, rfl⟩ := List.mem_iff_getElem.1 hx
    have hrx := right_num (hg.right _ (List.getElem_mem hj))
    -- everything ahead of the place ends by p, everything behind begins behind p + n
    have hk : roomK l n = l.length ∨ (roomK l n < l.length ∧ fitAt l n (roomK l n) = true) := by
      unfold roomK
      cases hf : (List.range l.length).find? (fitAt l n) with
      | none => exact Or.inl rfl
      | some k => exact Or.inr ⟨List.mem_range.1 (List.mem_of_find?_eq_some hf), List.find?_some hf⟩
    have hahead : j < roomK l n → l[j].st + l[j].cn ≤ p := by
      intro hjk
      rw [← hr]
      unfold lastAt
      rw [if_neg (by omega)]
      by_cases he : j = roomK l n - 1
      · rw [← he, getD_get hj]; omega
      · have hkl : roomK l n ≤ l.length := by rcases hk with h | h <;> omega
        have h1 := good_lt hg (i := j) (j := roomK l n - 1) (by omega) (by omega)
        have h2 := right_num (hg.right _ (List.getElem_mem (show roomK l n - 1 < l.length from by omega)))
        rw [getD_get hj] at h1
        rw [getD_get (by omega : roomK l n - 1 < l.length)] at h1 ⊢
        omega
    by_cases hjk : j < roomK l n
    · have := hahead hjk
      omega
    · rcases hk with hk | ⟨hk, hfit⟩
      · omega
      · unfold fitAt at hfit
        have hfit := of_decide_eq_true hfit
        rw [hr] at hfit
        by_cases he : j = roomK l n
        · rw [← he, getD_get hj] at hfit; omega
        · have h1 := good_lt hg (i := roomK l n) (j := j) (by omega) hj
          have h2 := right_num (hg.right _ (List.getElem_mem hk))
          rw [getD_get hj] at h1
          rw [getD_get hk] at h1 hfit
          omega
  · simp at hr
theorem map_free {l : List Ar} {a : Ar} (h : checkV l = true) (ha : rightB a = true) (hf : Free l a.st a.cn) : mapV l a = if l.length = 8 then (l, 3) else (insS a l, 0) := by
  unfold mapV
  rw [if_neg (by rw [h]; simp), if_neg (by rw [ha]; simp), if_neg (by rw [hit_of hf]; simp), insAt_eq (good_of_check h) ha hf]
theorem ins_check {l : List Ar} {a : Ar} (h : checkV l = true) (ha : rightB a = true) (hf : Free l a.st a.cn) (h8 : l.length < 8) : checkV (insS a l) = true :=
  check_of_good (insS_good (good_of_check h) ha hf) (by rw [insS_len]; omega)
theorem ins_find {l : List Ar} {a : Ar} (h : checkV l = true) (ha : rightB a = true) (hf : Free l a.st a.cn) (h8 : l.length < 8) (i : Int) : findV (insS a l) i = if inB i a = true then some a else findV l i := by
  have hc := ins_check h ha hf h8
  split
  · rename_i hi
    exact (find_iff hc).2 ⟨mem_insS.2 (Or.inl rfl), hi⟩
  · rename_i hi
    cases hfl : findV l i with
    | some x =>
      have := (find_iff h).1 hfl
      exact (find_iff hc).2 ⟨mem_insS.2 (Or.inr this.1), this.2⟩
    | none =>
      cases hfn : findV (insS a l) i with
      | none => rfl
      | some y =>
        have hy := (find_iff hc).1 hfn
        rcases mem_insS.1 hy.1 with rfl | hm
        · exact absurd hy.2 hi
        · rw [(find_iff h).2 ⟨hm, hy.2⟩] at hfl
          cases hfl

theorem part_iff {x y : Ar} {u v : Int} : partV x u v = some y ↔ max u x.st < min v (x.st + x.cn) ∧ y = ⟨max u x.st, min v (x.st + x.cn) - max u x.st, x.fi, x.pg + (max u x.st - x.st), x.wr⟩ := by
  unfold partV
  split
  · rename_i h; constructor
    · intro h; cases h
    · intro h2; omega
  · rename_i h
    constructor
    · intro h2; cases h2; exact ⟨by omega, rfl⟩
    · rintro ⟨_, rfl⟩; rfl
theorem part_in {x y : Ar} {u v : Int} (hx : rightB x = true) (h : partV x u v = some y) : rightB y = true ∧ x.st ≤ y.st ∧ y.st + y.cn ≤ x.st + x.cn ∧ u ≤ y.st ∧ y.st + y.cn ≤ v ∧ y.fi = x.fi ∧ y.wr = x.wr ∧ y.pg - y.st = x.pg - x.st := by
  obtain ⟨h1, rfl⟩ := part_iff.1 h
  have hn := right_num hx
  refine ⟨?_, ?_, ?_, ?_, ?_, rfl, rfl, ?_⟩
  · unfold rightB
    refine decide_eq_true ?_
    show 0 ≤ max u x.st ∧ 1 ≤ min v (x.st + x.cn) - max u x.st ∧ max u x.st + (min v (x.st + x.cn) - max u x.st) ≤ 64 ∧ 0 ≤ x.pg + (max u x.st - x.st) ∧ x.pg + (max u x.st - x.st) + (min v (x.st + x.cn) - max u x.st) ≤ 8 ∧ 0 ≤ x.fi ∧ x.fi < 8
    omega
  all_goals show _ <;> dsimp only <;> omega
theorem mem_out {l : List Ar} {s n : Int} {y : Ar} : y ∈ outTo l s n l.length ↔ ∃ x ∈ l, partV x 0 s = some y ∨ partV x (s + n) 64 = some y := by
  unfold outTo partsOf
  rw [List.take_length, List.mem_flatMap]
  simp only [List.mem_append, Option.mem_toList]
theorem out_cons (x : Ar) (l : List Ar) (s n : Int) : outTo (x :: l) s n (x :: l).length = (partV x 0 s).toList ++ (partV x (s + n) 64).toList ++ outTo l s n l.length := by
  unfold outTo
  rw [List.take_length, List.take_length, List.flatMap_cons]
  rfl
theorem out_good {l : List Ar} {s n : Int} (h : Good l) (hn : 1 ≤ n) : Good (outTo l s n l.length) := by
  refine ⟨fun y hy => ?_, ?_⟩
  · obtain ⟨x, hx, hp⟩ := mem_out.1 hy
    rcases hp with hp | hp
    · exact (part_in (h.right x hx) hp).1
    · exact (part_in (h.right x hx) hp).1
  · induction l with
    | nil => exact List.Pairwise.nil
    | cons x l ih =>
      rw [out_cons]
      refine List.pairwise_append.2 ⟨?_, ih h.tail, ?_⟩
      · refine List.pairwise_append.2 ⟨?_, ?_, ?_⟩
        · cases partV x 0 s <;> simp
        · cases partV x (s + n) 64 <;> simp
        · intro a ha b hb
          have h1 := part_in h.head (Option.mem_toList.1 ha)
          have h2 := part_in h.head (Option.mem_toList.1 hb)
          unfold Bef
          omega
      · intro a ha b hb
        obtain ⟨x2, hx2, hp⟩ := mem_out.1 hb
        have h3 := h.bef x2 hx2
        have h1 : a.st + a.cn ≤ x.st + x.cn := by
          rcases List.mem_append.1 ha with ha | ha
          · exact (part_in h.head (Option.mem_toList.1 ha)).2.2.1
          · exact (part_in h.head (Option.mem_toList.1 ha)).2.2.1
        have h2 : x2.st ≤ b.st := by
          rcases hp with hp | hp
          · exact (part_in (h.tail.right x2 hx2) hp).2.1
          · exact (part_in (h.tail.right x2 hx2) hp).2.1
        unfold Bef at *
        omega
theorem unmap_ok {l : List Ar} {s n : Int} (h : checkV l = true) (hw : withinB s n 64 = true) : unmapV l s n = if 8 < (outTo l s n l.length).length then (l, 3) else (outTo l s n l.length, 0) := by
  unfold unmapV
  rw [if_neg (by rw [h]; simp), if_neg (by rw [hw]; simp)]
theorem out_check {l : List Ar} {s n : Int} (h : checkV l = true) (hn : 1 ≤ n) (h8 : ¬ 8 < (outTo l s n l.length).length) : checkV (outTo l s n l.length) = true :=
  check_of_good (out_good (good_of_check h) hn) (by omega)
/-- pages that are unmapped show nothing; the others show what they showed -/
theorem out_find_in {l : List Ar} {s n i : Int} (h : checkV l = true) (hn : 1 ≤ n) (h8 : ¬ 8 < (outTo l s n l.length).length) (h0 : s ≤ i) (h1 : i < s + n) : findV (outTo l s n l.length) i = none := by
  cases hf : findV (outTo l s n l.length) i with
  | none => rfl
  | some y =>
    obtain ⟨hy, hi⟩ := (find_iff (out_check h hn h8)).1 hf
    unfold inB at hi
    have hi := of_decide_eq_true hi
    obtain ⟨x, hx, hp⟩ := mem_out.1 hy
    have hr := (good_of_check h).right x hx
    rcases hp with hp | hp
    · have := part_in hr hp; omega
    · have := part_in hr hp; omega
theorem out_find_out {l : List Ar} {s n i : Int} (h : checkV l = true) (hw : withinB s n 64 = true) (h8 : ¬ 8 < (outTo l s n l.length).length) (ho : i < s ∨ s + n ≤ i) :
    (findV l i = none ∧ findV (outTo l s n l.length) i = none) ∨ ∃ x, findV l i = some x ∧ ((i < s ∧ partV x 0 s = findV (outTo l s n l.length) i) ∨ (s + n ≤ i ∧ partV x (s + n) 64 = findV (outTo l s n l.length) i)) ∧ ∃ y, findV (outTo l s n l.length) i = some y ∧ y.fi = x.fi ∧ y.wr = x.wr ∧ y.pg - y.st = x.pg - x.st := by
  have hwn := within_num hw
  have hc := out_check h hwn.2.1 h8
  cases hf : findV l i with
  | none =>
    refine Or.inl ⟨rfl, ?_⟩
    cases hg : findV (outTo l s n l.length) i with
    | none => rfl
    | some y =>
      obtain ⟨hy, hi⟩ := (find_iff hc).1 hg
      unfold inB at hi
      have hi := of_decide_eq_true hi
      obtain ⟨x, hx, hp⟩ := mem_out.1 hy
      have hr := (good_of_check h).right x hx
      have hxi : inB i x = true := by
        unfold inB
        rcases hp with hp | hp
        · have := part_in hr hp; exact decide_eq_true (by omega)
        · have := part_in hr hp; exact decide_eq_true (by omega)
      rw [(find_iff h).2 ⟨hx, hxi⟩] at hf
      cases hf
  | some x =>
    obtain ⟨hx, hi⟩ := (find_iff h).1 hf
    unfold inB at hi
    have hi := of_decide_eq_true hi
    have hr := right_num ((good_of_check h).right x hx)
    refine Or.inr ⟨x, rfl, ?_⟩
    rcases ho with ho | ho
    · obtain ⟨y, hp⟩ : ∃ y, partV x 0 s = some y := ⟨_, part_iff.2 ⟨by omega, rfl⟩⟩
      have hy : findV (outTo l s n l.length) i = some y := by
        refine (find_iff hc).2 ⟨mem_out.2 ⟨x, hx, Or.inl hp⟩, ?_⟩
        obtain ⟨_, rfl⟩ := part_iff.1 hp
        unfold inB
        exact decide_eq_true (by dsimp only; omega)
      have hin := part_in ((good_of_check h).right x hx) hp
      exact ⟨Or.inl ⟨ho, by rw [hy, hp]⟩, y, hy, hin.2.2.2.2.2.1, hin.2.2.2.2.2.2.1, hin.2.2.2.2.2.2.2⟩
    · obtain ⟨y, hp⟩ : ∃ y, partV x (s + n) 64 = some y := ⟨_, part_iff.2 ⟨by omega, rfl⟩⟩
      have hy : findV (outTo l s n l.length) i = some y := by
        refine (find_iff hc).2 ⟨mem_out.2 ⟨x, hx, Or.inr hp⟩, ?_⟩
        obtain ⟨_, rfl⟩ := part_iff.1 hp
        unfold inB
        exact decide_eq_true (by dsimp only; omega)
      have hin := part_in ((good_of_check h).right x hx) hp
      exact ⟨Or.inr ⟨ho, by rw [hy, hp]⟩, y, hy, hin.2.2.2.2.2.1, hin.2.2.2.2.2.2.1, hin.2.2.2.2.2.2.2⟩
theorem ar_eta (x : Ar) : (⟨x.st, x.cn, x.fi, x.pg, x.wr⟩ : Ar) = x := rfl
/-- an area that the pages do not meet stays whole -/
theorem parts_free {x : Ar} {s n : Int} (hx : rightB x = true) (hn : 1 ≤ n) (hf : ¬ (x.st < s + n ∧ s < x.st + x.cn)) : (partV x 0 s).toList ++ (partV x (s + n) 64).toList = [x] := by
  have hr := right_num hx
  by_cases h1 : x.st + x.cn ≤ s
  · have e1 : partV x 0 s = some x := part_iff.2 ⟨by omega, by
      refine Ar.ext' ?_ ?_ rfl ?_ rfl
      · show x.st = max 0 x.st; omega
      · show x.cn = min s (x.st + x.cn) - max 0 x.st; omega
      · show x.pg = x.pg + (max 0 x.st - x.st); omega⟩
    have e2 : partV x (s + n) 64 = none := by unfold partV; rw [if_pos (by omega)]
    rw [e1, e2]; rfl
  · have e1 : partV x (s + n) 64 = some x := part_iff.2 ⟨by omega, by
      refine Ar.ext' ?_ ?_ rfl ?_ rfl
      · show x.st = max (s + n) x.st; omega
      · show x.cn = min 64 (x.st + x.cn) - max (s + n) x.st; omega
      · show x.pg = x.pg + (max (s + n) x.st - x.st); omega⟩
    have e2 : partV x 0 s = none := by unfold partV; rw [if_pos (by omega)]
    rw [e1, e2]; rfl
theorem out_free {l : List Ar} {s n : Int} (h : Good l) (hn : 1 ≤ n) (hf : Free l s n) : outTo l s n l.length = l := by
  induction l with
  | nil => rfl
  | cons x l ih =>
    rw [out_cons, parts_free h.head hn (hf x List.mem_cons_self), ih h.tail fun y hy => hf y (List.mem_cons_of_mem _ hy)]
    rfl
theorem out_ins {l : List Ar} {a : Ar} (h : Good l) (ha : rightB a = true) (hf : Free l a.st a.cn) : outTo (insS a l) a.st a.cn (insS a l).length = l := by
  have han := right_num ha
  have hself : (partV a 0 a.st).toList ++ (partV a (a.st + a.cn) 64).toList = [] := by
    have e1 : partV a 0 a.st = none := by unfold partV; rw [if_pos (by omega)]
    have e2 : partV a (a.st + a.cn) 64 = none := by unfold partV; rw [if_pos (by omega)]
    rw [e1, e2]; rfl
  induction l with
  | nil =>
    show outTo [a] a.st a.cn [a].length = []
    rw [out_cons, hself]; rfl
  | cons x l ih =>
    unfold insS
    split
    · rw [out_cons, hself, List.nil_append]
      exact out_free h han.2.1 hf
    · rw [out_cons, parts_free h.head han.2.1 (hf x List.mem_cons_self), ih h.tail fun y hy => hf y (List.mem_cons_of_mem _ hy)]
      rfl
theorem unmap_ins {l : List Ar} {a : Ar} (h : checkV l = true) (ha : rightB a = true) (hf : Free l a.st a.cn) (h8 : l.length < 8) : unmapV (insS a l) a.st a.cn = (l, 0) := by
  have han := right_num ha
  rw [unmap_ok (ins_check h ha hf h8) (within_of han.1 han.2.1 han.2.2.1), out_ins (good_of_check h) ha hf, if_neg (by omega)]
/-- a page cut out of the midst of an area -/
theorem out_cut_len {l : List Ar} {a : Ar} {t : Int} (h : Good l) (ha : a ∈ l) (h1 : a.st < t) (h2 : t + 1 < a.st + a.cn) : (outTo l t 1 l.length).length = l.length + 1 := by
  induction l with
  | nil => cases ha
  | cons x l ih =>
    rw [out_cons, List.length_append, List.length_append, List.length_cons]
    rcases List.mem_cons.1 ha with rfl | hm
    · have hr := right_num h.head
      have hfree : Free l t 1 := fun y hy => by
        have := h.bef y hy
        unfold Bef at this
        omega
      have e1 : ∃ y, partV a 0 t = some y := ⟨_, part_iff.2 ⟨by omega, rfl⟩⟩
      have e2 : ∃ y, partV a (t + 1) 64 = some y := ⟨_, part_iff.2 ⟨by omega, rfl⟩⟩
      obtain ⟨y1, e1⟩ := e1
      obtain ⟨y2, e2⟩ := e2
      rw [e1, e2, out_free h.tail (by omega) hfree]
      simp; omega
    · have hb := h.bef a hm
      unfold Bef at hb
      have hra := right_num (h.tail.right a hm)
      have hp := congrArg List.length (parts_free (s := t) (n := 1) h.head (by omega) (by omega))
      rw [List.length_append] at hp
      rw [ih h.tail hm, hp]
      simp; omega
end Go.Proofs.Ytpnoilpdlnlebaa
