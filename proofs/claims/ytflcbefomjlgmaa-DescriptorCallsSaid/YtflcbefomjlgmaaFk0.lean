/- A table over another one; many references more. -/
import Derived.Test.YtflcbefomjlgmaaPv
import Derived.Laws.CopyRow
import Derived.Laws.Tables
set_option linter.unusedSimpArgs false
set_option linter.unusedVariables false
namespace Go.Proofs.Ytflcbefomjlgmaa
open Go.ChangeShapes Go.WideShapes Go.ChangeAt Go.RowKit

theorem own_same {W W' : World} {B n size : Nat} {e : TypeId} {v : Value} {xs : List Value} (h : W.ownsRow B e size v n xs) (hb : ∀ q, v.ownBlock = some q → W'.heap[q]? = W.heap[q]?) : W'.ownsRow B e size v n xs := by
  refine ⟨h.1, ?_⟩
  rcases h.2 with hn | ⟨g, cap, cur, rfl, hg, hgg, rest⟩
  · exact Or.inl hn
  · exact Or.inr ⟨g, cap, cur, rfl, hg, by rw [hb g rfl]; exact hgg, rest⟩
theorem Bx.same {W W' : World} {b : Nat} {x : Dv} (h : Bx W b x) (hs : W'.heap.size = W.heap.size) (hb : W'.heap[b]? = W.heap[b]?) : Bx W' b x := by
  refine ⟨⟨fun j u hj => (World.cell?_of_block (w := W) (a := ⟨b, 0 + j, none⟩) hb).trans (h.at'.r j u hj), fun j hj => ?_, by rw [hs]; exact h.at'.hi⟩, by rw [hb]; exact h.ty⟩
  rw [World.cell?_of_block (w := W) (a := ⟨b, 0 + j, none⟩) hb, World.frozen?_of_block (w := W) (a := ⟨b, 0 + j, none⟩) hb]
  exact h.at'.t j hj
theorem Wk.row {B O g c : Nat} {W W' : World} {y : Dv} (h : Wk B W O y) (i : Nat) (hi : i < y.t.length) (hg : (y.t.getD i Tb.nil).a = some ⟨g, 0, none⟩) (l : List Int)
    (hs : W'.heap.size = W.heap.size) (hk : ∀ k, k ≠ g → W'.heap[k]? = W.heap[k]?) (hrow : W'.ownsRow B 3 1 (.slice (some ⟨g, 0, none⟩) l.length c) l.length (ints l)) (hc : (y.t.getD i Tb.nil).c = c) (hl : l.length = (y.t.getD i Tb.nil).l.length) :
    Wk B W' O ⟨y.oa, y.oc, y.o, y.ta, y.tc, y.t.set i ⟨some ⟨g, 0, none⟩, c, l⟩⟩ := by
  have he := h.own.e _ (List.getElem_mem hi)
  have hg' := hg
  rw [getD_get hi] at hg'
  have hv : y.t[i].val = .slice (some ⟨g, 0, none⟩) y.t[i].l.length y.t[i].c := by unfold Tb.val; rw [hg']
  have he' := he
  rw [hv] at he'
  have ty := own_heap he'
  rw [getD_get hi] at hc hl
  have emap : (y.t.set i ⟨some ⟨g, 0, none⟩, c, l⟩).map Tb.val = y.t.map Tb.val := by
    rw [List.map_set]
    refine List.ext_getElem (by simp) fun n h1 h2 => ?_
    rw [List.getElem_set]
    split
    · rename_i hh; subst hh
      rw [List.getElem_map, hv]
      simp [Tb.val, hc, hl]
    · rfl
  have amap : (y.t.set i ⟨some ⟨g, 0, none⟩, c, l⟩).map Tb.a = y.t.map Tb.a := by
    rw [List.map_set]
    refine List.ext_getElem (by simp) fun n h1 h2 => ?_
    rw [List.getElem_set]
    split
    · rename_i hh; subst hh
      rw [List.getElem_map, hg']
    · rfl
  refine ⟨⟨own_same h.own.o (fun q hq => hk q (own_ne2 h.own.o ty (by decide) q hq)), ?_, fun z hz => ?_, ?_⟩, ?_, h.lo⟩
  · show W'.ownsRow B 22 1 (.slice y.ta (y.t.set i _).length y.tc) (y.t.set i _).length ((y.t.set i _).map Tb.val)
    rw [List.length_set, emap]
    exact own_same h.own.t (fun q hq => hk q (own_ne2 h.own.t ty (by decide) q hq))
  · obtain ⟨n, hn, rfl⟩ := List.getElem_of_mem hz
    have hn' : n < y.t.length := by simpa using hn
    show W'.ownsRow B 3 1 ((y.t.set i _)[n]).val ((y.t.set i _)[n]).l.length (ints ((y.t.set i _)[n]).l)
    by_cases hin : i = n
    · subst hin
      rw [List.getElem_set_self]
      exact hrow
    · rw [List.getElem_set_ne hin]
      refine own_same (h.own.e _ (List.getElem_mem hn')) (fun q hq => hk q (fun hqg => ?_))
      have hp := List.pairwise_iff_getElem.1 h.own.d
      have hq2 : ∃ p, y.t[n].a = some p ∧ p.block = q := by
        unfold Tb.val at hq
        cases ha : y.t[n].a with
        | none => rw [ha] at hq; cases hq
        | some p => rw [ha] at hq; exact ⟨p, rfl, by simpa [Value.ownBlock] using hq⟩
      obtain ⟨p, hp1, hp2⟩ := hq2
      rcases Nat.lt_or_gt_of_ne hin with hlt | hlt
      · exact hp i n hi hn' hlt ⟨g, 0, none⟩ p hg' hp1 (by rw [hp2]; exact hqg.symm)
      · exact hp n i hn' hi hlt p ⟨g, 0, none⟩ hp1 hg' (by rw [hp2]; exact hqg)
  · have hd := h.own.d
    have conv : ∀ l : List Tb, l.Pairwise (fun y z => ∀ p q, y.a = some p → z.a = some q → p.block ≠ q.block) ↔ (l.map Tb.a).Pairwise (fun y z => ∀ p q, y = some p → z = some q → p.block ≠ q.block) := fun l => by rw [List.pairwise_map]
    rw [conv] at hd ⊢
    rw [amap]
    exact hd
  · have hO : O ≠ g := h.neT i hi hg
    have hb := h.box.same hs (hk O hO)
    exact ⟨by show At W' O [.slice y.oa y.o.length y.oc, .slice y.ta (y.t.set i _).length y.tc]; rw [List.length_set]; exact hb.at', hb.ty⟩
theorem copy_tab {B O gi gj ci cj : Nat} {W : World} {y : Dv} (h : Wk B W O y) (i j : Nat) (hi : i < y.t.length) (hj : j < y.t.length) (ai : (y.t.getD i Tb.nil).a = some ⟨gi, 0, none⟩) (aj : (y.t.getD j Tb.nil).a = some ⟨gj, 0, none⟩)
    (ei : (y.t.getD i Tb.nil).c = ci) (li : (y.t.getD i Tb.nil).l.length = 16) (l : List Int) (lj : (y.t.getD j Tb.nil).l = l) (hl : l.length = 16) (hB : B ≤ gi) :
    ∃ W', (∀ ty, (Builtin.copy_ #[22, 22] ty #[.slice (some ⟨gi, 0, none⟩) 16 ci, .slice (some ⟨gj, 0, none⟩) 16 cj]).run Try.prog W = .ok (goInt 16) W') ∧ Wk B W' O ⟨y.oa, y.oc, y.o, y.ta, y.tc, y.t.set i ⟨some ⟨gi, 0, none⟩, ci, l⟩⟩ ∧ Below B W W' := by
  have ho := h.own.e _ (List.getElem_mem hi)
  have hv : y.t[i].val = .slice (some ⟨gi, 0, none⟩) y.t[i].l.length y.t[i].c := by unfold Tb.val; rw [← getD_get (d := Tb.nil) hi, ai]
  rw [hv] at ho
  rcases ho.2 with ⟨hn, _⟩ | ⟨g, cap, cur, hge, h1, h2, h3, h4, h5, h6⟩
  · cases hn
  have hge' := hge
  simp only [Value.slice.injEq, Option.some.injEq, Addr.mk.injEq] at hge'
  obtain ⟨⟨rfl, _, _⟩, _, hcap⟩ := hge'
  have hli : y.t[i].l.length = 16 := by rw [← getD_get (d := Tb.nil) hi]; exact li
  rw [hli] at h3
  have hsz : cur.size = cap := by rw [h5, Nat.mul_one]
  have hcell : ∀ n v, (ints l)[n]? = some v → W.cell? ((⟨gj, 0, none⟩ : Addr).add n) = some v := fun n v hn => by
    have hn16 : n < l.length := by
      have := (List.getElem?_eq_some_iff.1 hn).1
      simpa [ints] using this
    obtain ⟨g3, o3, k1, k2, k3, k4, k5⟩ := h.own.in.num j hj n (by rw [lj]; exact hn16)
    have hmem : y.t.getD j Tb.nil ∈ y.t := by rw [getD_get hj]; exact List.getElem_mem hj
    have hz3 := own_zero (h.own.e _ hmem) k1
    subst hz3
    rw [aj] at k1
    cases k1
    rw [Addr.add_lit, Nat.zero_add]
    rw [Nat.zero_add, lj] at k5
    rw [k5, ← ints_at l n hn16]
    exact hn
  have hfit : 0 + (ints l).length ≤ cur.size := by rw [ints_len, hl, hsz]; omega
  have hrun := fun ty => run_copy_row (P := Try.prog) W 22 22 ty 3 gi 0 16 ci ⟨gj, 0, none⟩ 16 cj cur 3 (ints l) Try.underlying22 size3 h2 (by rw [ints_len, hl]; rfl) hcell hfit ints_one
  have hnew : (cur.toList.take 0 ++ ints l ++ cur.toList.drop (0 + (ints l).length)) = ints l ++ cur.toList.drop 16 := by rw [ints_len, hl]; simp
  rw [hnew] at hrun
  have hcur : (ints l ++ cur.toList.drop 16).length = cap := by
    rw [List.length_append, ints_len, hl, List.length_drop, Array.length_toList, hsz]; omega
  have hhp : (W.setRow gi (ints l ++ cur.toList.drop 16).toArray).heap[gi]? = some (.cells (ints l ++ cur.toList.drop 16).toArray 3 (0, 0)) := by
    simp [World.setRow, Array.getElem?_modify, h2]
  have hci : ci = cap := by rw [← ei, getD_get hi]; exact hcap
  refine ⟨W.setRow gi (ints l ++ cur.toList.drop 16).toArray, fun ty => by rw [hrun ty, ints_len, hl]; rfl, Wk.row h i hi ai l (by simp [World.setRow]) (fun k hk => setRow_other W gi k _ hk) ?_ ei (by rw [hl, li]), ?_⟩
  · refine ⟨by rw [ints_len, Nat.mul_one], Or.inr ⟨gi, ci, _, rfl, hB, hhp, by rw [hl, hci]; exact h3, by rw [hci]; exact h4, by rw [List.size_toArray, hcur, hci, Nat.mul_one], ?_⟩⟩
    rw [List.toList_toArray, Nat.mul_one, List.take_append_of_le_length (by rw [ints_len]; exact Nat.le_refl _)]
    exact List.take_of_length_le (by rw [ints_len]; exact Nat.le_refl _)
  · exact ⟨rfl, rfl, rfl, by simp [World.setRow], fun k hk => setRow_other W gi k _ (by omega)⟩

/-! bumps -/
theorem bumpL_len (o : List Dn) (n : Nat) (k : Int) : (bumpL o n k).length = o.length := by simp [bumpL]
theorem bumps_len (o : List Dn) (l : List Int) : (bumps o l).length = o.length := by
  induction l generalizing o with
  | nil => rfl
  | cons z r ih =>
    unfold bumps
    rw [ih]
    split
    · exact bumpL_len _ _ _
    · rfl
theorem bumps_snoc (o : List Dn) (l : List Int) (z : Int) : bumps o (l ++ [z]) = if 0 < z then bumpL (bumps o l) (z - 1).toNat 1 else bumps o l := by
  induction l generalizing o with
  | nil => rfl
  | cons a r ih => exact ih _
theorem bumpL_rf (o : List Dn) (n : Nat) (k : Int) (i : Nat) (hk : 0 ≤ k) (hi : i < o.length) : (o.getD i Dn.zero).rf ≤ ((bumpL o n k).getD i Dn.zero).rf ∧ ((bumpL o n k).getD i Dn.zero).rf ≤ (o.getD i Dn.zero).rf + k := by
  unfold bumpL
  rw [getD_get (l := o.set n _) (by simpa using hi), List.getElem_set]
  split
  · rename_i h
    subst h
    exact ⟨by show _ ≤ (o.getD n Dn.zero).rf + k; omega, Int.le_refl _⟩
  · rw [getD_get hi]; omega
theorem bumps_rf (o : List Dn) (l : List Int) (i : Nat) (hi : i < o.length) : (o.getD i Dn.zero).rf ≤ ((bumps o l).getD i Dn.zero).rf ∧ ((bumps o l).getD i Dn.zero).rf ≤ (o.getD i Dn.zero).rf + l.length := by
  induction l generalizing o with
  | nil => exact ⟨Int.le_refl _, by show (o.getD i Dn.zero).rf ≤ _; simp⟩
  | cons z r ih =>
    unfold bumps
    rw [List.length_cons]
    split
    · have h1 := ih (bumpL o (z - 1).toNat 1) (by rw [bumpL_len]; exact hi)
      have h2 := bumpL_rf o (z - 1).toNat 1 i (by omega) hi
      omega
    · have h1 := ih o hi
      omega
theorem getD_set_self {α : Type} {l : List α} {i : Nat} {x d : α} (h : i < l.length) : (l.set i x).getD i d = x := by rw [getD_get (by simpa using h), List.getElem_set_self]
theorem getD_set_ne {α : Type} {l : List α} {i j : Nat} {x d : α} (hne : i ≠ j) : (l.set i x).getD j d = l.getD j d := by
  simp [List.getD, List.getElem?_set_ne hne]
theorem anyB_false {l : List Int} (h : anyB l = false) : ∀ j, j < l.length → l.getD j 0 = 0 := by
  intro j hj
  unfold anyB at h
  have h1 := of_decide_eq_false h
  rcases fst_cases (fun z => !zeroB z) l 0 with ⟨_, h3⟩ | ⟨k, h3, _⟩
  · have := h3 j hj
    simpa [zeroB] using this
  · omega
theorem anyB_true {l : List Int} {k : Nat} (hk : k < l.length) (h : l.getD k 0 ≠ 0) : anyB l = true := by
  unfold anyB
  refine decide_eq_true ?_
  rcases fst_cases (fun z => !zeroB z) l 0 with ⟨_, h3⟩ | ⟨k, h3, _⟩
  · have := h3 _ hk
    simp [zeroB] at this
    exact absurd this h
  · omega
theorem anyB_none {l : List Int} (h : ∀ j, j < l.length → l.getD j 0 = 0) : anyB l = false := by
  unfold anyB
  refine decide_eq_false ?_
  rw [fst_miss (f := fun z => !zeroB z) (d := 0) (fun j hj => by show (!zeroB (l.getD j 0)) = false; rw [h j hj]; rfl)]
  decide
end Go.Proofs.Ytflcbefomjlgmaa
