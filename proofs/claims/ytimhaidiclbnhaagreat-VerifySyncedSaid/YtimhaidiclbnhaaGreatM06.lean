/- Layer 46, shared texts of this seat, part 06. -/
import Derived.Laws.CopyRow
import Derived.Laws.Tables
import Derived.Test.YtimhaidiclbnhaaGreatM05
import Derived.Test.YtimhaidiclbnhaaGreatM03
/- What the calls make of descriptors. -/
set_option maxRecDepth 100000
set_option linter.unusedSimpArgs false
set_option linter.unusedVariables false
namespace Go.Proofs.YtimhaidiclbnhaaGreat.Des
open Go.ChangeShapes Go.WideShapes Go.ChangeAt Go.RowKit

def setE (t : List (List Int)) (p f : Nat) (z : Int) : List (List Int) := t.set p ((t.getD p []).set f z)
def bump (a : Dn) (z : Int) : Dn := ⟨a.fi, a.fl, a.f, a.cu, z⟩
def bumpL (o : List Dn) (n : Nat) (k : Int) : List Dn := o.set n (bump (o.getD n Dn.zero) ((o.getD n Dn.zero).rf + k))
/-! Open -/
def openE (d : De) (p fi fl c : Int) : Int := if procV d p ≠ 0 then procV d p else if (fixB fi fl && curB c) = false then 2 else if fst zeroB (tabAt d p) < 0 then 3 else 0
def openF (d : De) (p fi fl c : Int) : Int := if openE d p fi fl c = 0 then fst zeroB (tabAt d p) else 0
def slotN (o : List Dn) : Nat := if fst noneB o < 0 then o.length else (fst noneB o).toNat
def putD (o : List Dn) (x : Dn) : List Dn := if fst noneB o < 0 then o ++ [x] else o.set (fst noneB o).toNat x
def openD (d : De) (p fi fl c : Int) : De := if openE d p fi fl c = 0 then ⟨putD d.o ⟨fi, fl, 0, c, 1⟩, setE d.t p.toNat (fst zeroB (tabAt d p)).toNat ((slotN d.o : Int) + 1)⟩ else d
/-! Dup -/
def dupE (d : De) (p f : Int) : Int := if numE d p f ≠ 0 then numE d p f else if fst zeroB (tabAt d p) < 0 then 3 else 0
def dupF (d : De) (p f : Int) : Int := if dupE d p f = 0 then fst zeroB (tabAt d p) else 0
def dupD (d : De) (p f : Int) : De := if dupE d p f = 0 then ⟨bumpL d.o (numV d p f).toNat 1, setE d.t p.toNat (fst zeroB (tabAt d p)).toNat (numV d p f + 1)⟩ else d
/-! Close -/
def trimR : List Dn → List Dn
  | [] => []
  | a :: r => if a.rf = 0 then trimR r else a :: r
def trim (o : List Dn) : List Dn := (trimR o.reverse).reverse
def closeG (d : De) (p f : Int) : Bool := decide (numE d p f = 0) && decide ((d.o.getD (numV d p f).toNat Dn.zero).rf - 1 ≤ 0)
def closeD (d : De) (p f : Int) : De :=
  if numE d p f = 0 then
    ⟨if (d.o.getD (numV d p f).toNat Dn.zero).rf - 1 ≤ 0 then trim (d.o.set (numV d p f).toNat Dn.zero) else bumpL d.o (numV d p f).toNat (-1), setE d.t p.toNat f.toNat 0⟩
  else d
/-! Fork -/
/-! Update -/
def updE (d : De) (n f c : Int) : Int := if checkV d = false then 1 else if n < 0 ∨ (d.o.length : Int) ≤ n ∨ (d.o.getD n.toNat Dn.zero).rf = 0 then 4 else if movB f c = false then 2 else 0
def updD (d : De) (n f c : Int) : De := if updE d n f c = 0 then ⟨d.o.set n.toNat ⟨(d.o.getD n.toNat Dn.zero).fi, (d.o.getD n.toNat Dn.zero).fl, f, c, (d.o.getD n.toNat Dn.zero).rf⟩, d.t⟩ else d

theorem Wk.neT {B O : Nat} {W : World} {y : Dv} (h : Wk B W O y) (i : Nat) (hi : i < y.t.length) {g2 : Nat} (hg : (y.t.getD i Tb.nil).a = some ⟨g2, 0, none⟩) : O ≠ g2 := by
  have he := h.own.e _ (List.getElem_mem hi)
  rw [getD_get hi] at hg
  exact fun e => own_ne2 he (e' := 83) h.box.ty (by decide) g2 (by unfold Tb.val; rw [hg]; rfl) e.symm
theorem Wk.neO {B O : Nat} {W : World} {y : Dv} (h : Wk B W O y) {g : Nat} (hg : y.oa = some ⟨g, 0, none⟩) : O ≠ g :=
  fun e => own_ne2 h.own.o (e' := 83) h.box.ty (by decide) g (by rw [hg]; rfl) e.symm
theorem tset_pl (t : List Tb) (i j : Nat) (z : Int) : (tset t i j z).map Tb.l = setE (t.map Tb.l) i j z := tset_l t i j z
theorem there5 {W : World} {g o : Nat} {a : Dn} (h : DCel W g o a) (hf : ∀ j, W.frozen? ⟨g, j, none⟩ = false) : W.there g o 5 := by
  intro j hj
  refine ⟨?_, hf _⟩
  have h5 : j = 0 ∨ j = 1 ∨ j = 2 ∨ j = 3 ∨ j = 4 := by omega
  rcases h5 with rfl | rfl | rfl | rfl | rfl
  · rw [Nat.add_zero, h.c0]; rfl
  · rw [h.c1]; rfl
  · rw [h.c2]; rfl
  · rw [h.c3]; rfl
  · rw [h.c4]; rfl
end Go.Proofs.YtimhaidiclbnhaaGreat.Des
/- A table over another one; many references more. -/
set_option maxRecDepth 100000
set_option linter.unusedSimpArgs false
set_option linter.unusedVariables false
namespace Go.Proofs.YtimhaidiclbnhaaGreat.Des
open Go.ChangeShapes Go.WideShapes Go.ChangeAt Go.RowKit

theorem own_same {W W' : World} {B n size : Nat} {e : TypeId} {v : Value} {xs : List Value} (h : W.ownsRow B e size v n xs) (hb : ∀ q, v.ownBlock = some q → W'.heap[q]? = W.heap[q]?) : W'.ownsRow B e size v n xs := by
  refine ⟨h.1, ?_⟩
  rcases h.2 with hn | ⟨g, cap, cur, rfl, hg, hgg, rest⟩
  · exact Or.inl hn
  · exact Or.inr ⟨g, cap, cur, rfl, hg, by rw [hb g rfl]; exact hgg, rest⟩
theorem Bx.same {W W' : World} {b : Nat} {x : Dv} (h : Bx W b x) (hs : W'.heap.size = W.heap.size) (hb : W'.heap[b]? = W.heap[b]?) : Bx W' b x := by
  refine ⟨⟨fun j u hj => (World.cell?_of_block (w := W) (a := ⟨b, 0 + j, none⟩) hb).trans (h.at'.r j u hj), fun j hj => ?_, by rw [hs]; exact h.at'.hi⟩, by rw [hb]; exact h.ty⟩
  rw [World.cell?_of_block (w := W) (a := ⟨b, 0 + j, none⟩) hb, World.frozen?_of_block (w := W) (a := ⟨b, 0 + j, none⟩) hb]
  exact h.at'.t j hj
theorem Wk.row {B O g c : Nat} {W W' : World} {y : Dv} (h : Wk B W O y) (i : Nat) (hi : i < y.t.length) (hg : (y.t.getD i Tb.nil).a = some ⟨g, 0, none⟩) (l : List Int)
    (hs : W'.heap.size = W.heap.size) (hk : ∀ k, k ≠ g → W'.heap[k]? = W.heap[k]?) (hrow : W'.ownsRow B 3 1 (.slice (some ⟨g, 0, none⟩) l.length c) l.length (ints l)) (hc : (y.t.getD i Tb.nil).c = c) (hl : l.length = (y.t.getD i Tb.nil).l.length) :
    Wk B W' O ⟨y.oa, y.oc, y.o, y.ta, y.tc, y.t.set i ⟨some ⟨g, 0, none⟩, c, l⟩⟩ := by
  have he := h.own.e _ (List.getElem_mem hi)
  have hg' := hg
  rw [getD_get hi] at hg'
  have hv : y.t[i].val = .slice (some ⟨g, 0, none⟩) y.t[i].l.length y.t[i].c := by unfold Tb.val; rw [hg']
  have he' := he
  rw [hv] at he'
  have ty := own_heap he'
  rw [getD_get hi] at hc hl
  have emap : (y.t.set i ⟨some ⟨g, 0, none⟩, c, l⟩).map Tb.val = y.t.map Tb.val := by
    rw [List.map_set]
    refine List.ext_getElem (by simp) fun n h1 h2 => ?_
    rw [List.getElem_set]
    split
    · rename_i hh; subst hh
      rw [List.getElem_map, hv]
      simp [Tb.val, hc, hl]
    · rfl
  have amap : (y.t.set i ⟨some ⟨g, 0, none⟩, c, l⟩).map Tb.a = y.t.map Tb.a := by
    rw [List.map_set]
    refine List.ext_getElem (by simp) fun n h1 h2 => ?_
    rw [List.getElem_set]
    split
    · rename_i hh; subst hh
      rw [List.getElem_map, hg']
    · rfl
  refine ⟨⟨own_same h.own.o (fun q hq => hk q (own_ne2 h.own.o ty (by decide) q hq)), ?_, fun z hz => ?_, ?_⟩, ?_, h.lo⟩
  · show W'.ownsRow B 22 1 (.slice y.ta (y.t.set i _).length y.tc) (y.t.set i _).length ((y.t.set i _).map Tb.val)
    rw [List.length_set, emap]
    exact own_same h.own.t (fun q hq => hk q (own_ne2 h.own.t ty (by decide) q hq))
  · obtain ⟨n, hn, rfl⟩ := List.getElem_of_mem hz
    have hn' : n < y.t.length := by simpa using hn
    show W'.ownsRow B 3 1 ((y.t.set i _)[n]).val ((y.t.set i _)[n]).l.length (ints ((y.t.set i _)[n]).l)
    by_cases hin : i = n
    · subst hin
      rw [List.getElem_set_self]
      exact hrow
    · rw [List.getElem_set_ne hin]
      refine own_same (h.own.e _ (List.getElem_mem hn')) (fun q hq => hk q (fun hqg => ?_))
      have hp := List.pairwise_iff_getElem.1 h.own.d
      have hq2 : ∃ p, y.t[n].a = some p ∧ p.block = q := by
        unfold Tb.val at hq
        cases ha : y.t[n].a with
        | none => rw [ha] at hq; cases hq
        | some p => rw [ha] at hq; exact ⟨p, rfl, by simpa [Value.ownBlock] using hq⟩
      obtain ⟨p, hp1, hp2⟩ := hq2
      rcases Nat.lt_or_gt_of_ne hin with hlt | hlt
      · exact hp i n hi hn' hlt ⟨g, 0, none⟩ p hg' hp1 (by rw [hp2]; exact hqg.symm)
      · exact hp n i hn' hi hlt p ⟨g, 0, none⟩ hp1 hg' (by rw [hp2]; exact hqg)
  · have hd := h.own.d
    have conv : ∀ l : List Tb, l.Pairwise (fun y z => ∀ p q, y.a = some p → z.a = some q → p.block ≠ q.block) ↔ (l.map Tb.a).Pairwise (fun y z => ∀ p q, y = some p → z = some q → p.block ≠ q.block) := fun l => by rw [List.pairwise_map]
    rw [conv] at hd ⊢
    rw [amap]
    exact hd
  · have hO : O ≠ g := h.neT i hi hg
    have hb := h.box.same hs (hk O hO)
    exact ⟨by show At W' O [.slice y.oa y.o.length y.oc, .slice y.ta (y.t.set i _).length y.tc]; rw [List.length_set]; exact hb.at', hb.ty⟩
/-! bumps -/
theorem bumpL_len (o : List Dn) (n : Nat) (k : Int) : (bumpL o n k).length = o.length := by simp [bumpL]
theorem getD_set_self {α : Type} {l : List α} {i : Nat} {x d : α} (h : i < l.length) : (l.set i x).getD i d = x := by rw [getD_get (by simpa using h), List.getElem_set_self]
theorem getD_set_ne {α : Type} {l : List α} {i j : Nat} {x d : α} (hne : i ≠ j) : (l.set i x).getD j d = l.getD j d := by
  simp [List.getD, List.getElem?_set_ne hne]
end Go.Proofs.YtimhaidiclbnhaaGreat.Des
/- What keeps descriptors right. -/
set_option maxRecDepth 100000
set_option linter.unusedSimpArgs false
set_option linter.unusedVariables false
namespace Go.Proofs.YtimhaidiclbnhaaGreat.Des
open Go.ChangeShapes Go.WideShapes Go.ChangeAt Go.RowKit

def nref (t : List (List Int)) (i : Nat) : Nat := t.flatten.count ((i : Int) + 1)
/-- descriptors are right -/
structure Rt (d : De) : Prop where
  t1 : 1 ≤ d.t.length
  t8 : d.t.length ≤ 8
  o128 : d.o.length ≤ 128
  rows : ∀ p, p < d.t.length → (d.t.getD p []).length = 16
  ent : ∀ z, z ∈ d.t.flatten → 0 ≤ z ∧ z ≤ (d.o.length : Int)
  rf : ∀ i, i < d.o.length → (d.o.getD i Dn.zero).rf = (nref d.t i : Int)
  zero : ∀ i, i < d.o.length → nref d.t i = 0 → d.o.getD i Dn.zero = Dn.zero
  pos : ∀ i, i < d.o.length → 0 < nref d.t i → rightD (d.o.getD i Dn.zero) = true
  last : ∀ n, d.o.length = n + 1 → 0 < nref d.t n
theorem refC_get (d : De) (i : Nat) (hi : i < d.o.length) : (refC d).getD i 0 = (nref d.t i : Int) := cnt_get _ _ _ hi
theorem check_rt {d : De} (h : checkV d = true) : Rt d := by
  have hl := check_len h
  have ht := check_tab h
  unfold checkV at h
  rw [Bool.and_eq_true, Bool.and_eq_true] at h
  obtain ⟨⟨h1, _⟩, h3⟩ := h
  have hit : ∀ i, i < d.o.length → (d.o.getD i Dn.zero).rf = (nref d.t i : Int) ∧ (nref d.t i = 0 → d.o.getD i Dn.zero = Dn.zero ∧ i + 1 ≠ d.o.length) ∧ (0 < nref d.t i → rightD (d.o.getD i Dn.zero) = true) := fun i hi => by
    have := List.all_eq_true.1 h3 i (List.mem_range.2 hi)
    rw [refC_get d i hi] at this
    unfold itemB at this
    rw [Bool.and_eq_true] at this
    obtain ⟨a1, a2⟩ := this
    refine ⟨of_decide_eq_true a1, fun h0 => ?_, fun h0 => ?_⟩
    · rw [if_pos (by omega), Bool.and_eq_true] at a2
      refine ⟨of_decide_eq_true a2.1, fun e => ?_⟩
      rw [decide_eq_true e] at a2
      exact absurd a2.2 (by decide)
    · rwa [if_neg (by omega)] at a2
  refine ⟨hl.1, hl.2.1, hl.2.2, fun p hp => (ht p hp).1, fun z hz => ?_, fun i hi => (hit i hi).1, fun i hi h0 => ((hit i hi).2.1 h0).1, fun i hi => (hit i hi).2.2, fun n hn => ?_⟩
  · obtain ⟨l, hl, hz⟩ := List.mem_flatten.1 hz
    have := List.all_eq_true.1 h1 l hl
    unfold tabB at this
    rw [Bool.and_eq_true] at this
    exact of_decide_eq_true (List.all_eq_true.1 this.2 z hz)
  · rcases Nat.eq_zero_or_pos (nref d.t n) with h0 | h0
    · exact absurd hn.symm (((hit n (by omega)).2.1 h0).2)
    · exact h0
theorem rt_check {d : De} (h : Rt d) : checkV d = true := by
  unfold checkV
  rw [Bool.and_eq_true, Bool.and_eq_true]
  refine ⟨⟨?_, decide_eq_true ⟨h.t1, h.t8, h.o128⟩⟩, ?_⟩
  · refine List.all_eq_true.2 fun l hl => ?_
    obtain ⟨p, hp, rfl⟩ := List.getElem_of_mem hl
    have h16 := h.rows p hp
    rw [getD_get hp] at h16
    unfold tabB
    rw [Bool.and_eq_true]
    exact ⟨decide_eq_true h16, List.all_eq_true.2 fun z hz => decide_eq_true (h.ent z (List.mem_flatten.2 ⟨_, hl, hz⟩))⟩
  · refine List.all_eq_true.2 fun i hi => ?_
    have hi := List.mem_range.1 hi
    rw [refC_get d i hi]
    unfold itemB
    rw [Bool.and_eq_true]
    refine ⟨decide_eq_true (h.rf i hi), ?_⟩
    rcases Nat.eq_zero_or_pos (nref d.t i) with h0 | h0
    · rw [if_pos (by omega), h.zero i hi h0, Bool.and_eq_true]
      refine ⟨by simp, ?_⟩
      have : i + 1 ≠ d.o.length := fun e => by have := h.last i e.symm; omega
      rw [decide_eq_false this]; rfl
    · rw [if_neg (by omega)]
      exact h.pos i hi h0

/-! counts -/
theorem count_set (l : List Int) (f : Nat) (z v : Int) (hf : f < l.length) : (l.set f z).count v + (if l.getD f 0 = v then 1 else 0) = l.count v + (if z = v then 1 else 0) := by
  induction l generalizing f with
  | nil => simp at hf
  | cons a r ih =>
    cases f with
    | zero =>
      simp only [List.set_cons_zero, List.count_cons, List.getD_cons_zero, beq_iff_eq]
      omega
    | succ f =>
      have := ih f (by simpa using hf)
      simp only [List.set_cons_succ, List.count_cons, List.getD_cons_succ, beq_iff_eq] at *
      omega
theorem flat_set (t : List (List Int)) (p : Nat) (l : List Int) (v : Int) (hp : p < t.length) : (t.set p l).flatten.count v + (t.getD p []).count v = t.flatten.count v + l.count v := by
  induction t generalizing p with
  | nil => simp at hp
  | cons a r ih =>
    cases p with
    | zero => simp only [List.set_cons_zero, List.flatten_cons, List.count_append, List.getD_cons_zero]; omega
    | succ p =>
      have := ih p (by simpa using hp)
      simp only [List.set_cons_succ, List.flatten_cons, List.count_append, List.getD_cons_succ] at *
      omega
theorem nref_set (t : List (List Int)) (p f : Nat) (z : Int) (hp : p < t.length) (hf : f < (t.getD p []).length) (i : Nat) :
    nref (setE t p f z) i + (if (t.getD p []).getD f 0 = (i : Int) + 1 then 1 else 0) = nref t i + (if z = (i : Int) + 1 then 1 else 0) := by
  have h1 := flat_set t p ((t.getD p []).set f z) ((i : Int) + 1) hp
  have h2 := count_set (t.getD p []) f z ((i : Int) + 1) hf
  unfold nref setE
  omega
theorem setE_len (t : List (List Int)) (p f : Nat) (z : Int) : (setE t p f z).length = t.length := by simp [setE]
theorem setE_row (t : List (List Int)) (p f : Nat) (z : Int) (q : Nat) : ((setE t p f z).getD q []).length = (t.getD q []).length := by
  unfold setE
  by_cases h : p = q
  · subst h
    by_cases hp : p < t.length
    · rw [getD_set_self hp, List.length_set]
    · rw [List.set_eq_of_length_le (by omega)]
  · rw [getD_set_ne h]
theorem mem_set {α : Type} {l : List α} {i : Nat} {x y : α} (h : y ∈ l.set i x) : y ∈ l ∨ y = x := by
  obtain ⟨k, hk, rfl⟩ := List.getElem_of_mem h
  rw [List.getElem_set]
  split
  · exact Or.inr rfl
  · exact Or.inl (List.getElem_mem _)
theorem setE_mem {t : List (List Int)} {p f : Nat} {z y : Int} (hp : p < t.length) (h : y ∈ (setE t p f z).flatten) : y ∈ t.flatten ∨ y = z := by
  obtain ⟨l, hl, hy⟩ := List.mem_flatten.1 h
  unfold setE at hl
  rcases mem_set hl with hl | rfl
  · exact Or.inl (List.mem_flatten.2 ⟨l, hl, hy⟩)
  · rcases mem_set hy with hy | rfl
    · rw [getD_get hp] at hy
      exact Or.inl (List.mem_flatten.2 ⟨_, List.getElem_mem hp, hy⟩)
    · exact Or.inr rfl
theorem nref_mem {t : List (List Int)} {i : Nat} : 0 < nref t i ↔ ((i : Int) + 1) ∈ t.flatten := List.count_pos_iff
theorem nref_big {d : De} (h : Rt d) (i : Nat) (hi : d.o.length ≤ i) : nref d.t i = 0 := by
  rcases Nat.eq_zero_or_pos (nref d.t i) with h0 | h0
  · exact h0
  · have := h.ent _ (nref_mem.1 h0)
    omega
theorem ent_mem {t : List (List Int)} {p f : Nat} (hp : p < t.length) (hf : f < (t.getD p []).length) : (t.getD p []).getD f 0 ∈ t.flatten := by
  refine List.mem_flatten.2 ⟨t.getD p [], ?_, ?_⟩
  · rw [getD_get hp]; exact List.getElem_mem hp
  · rw [getD_get hf]; exact List.getElem_mem hf
theorem pig (m : Nat) : ∀ (L : List Int), (∀ k : Nat, k ≤ m → (k : Int) ∈ L) → m + 1 ≤ L.length := by
  induction m with
  | zero =>
    intro L h
    have := h 0 (Nat.le_refl _)
    cases L with
    | nil => cases this
    | cons a r => simp
  | succ m ih =>
    intro L h
    have hm := h (m + 1) (Nat.le_refl _)
    have h1 := ih (L.erase ((m + 1 : Nat) : Int)) (fun k hk => (List.mem_erase_of_ne (by omega)).2 (h k (by omega)))
    rw [List.length_erase_of_mem hm] at h1
    have : 0 < L.length := List.length_pos_of_mem hm
    omega
theorem flat_len {t : List (List Int)} (h : ∀ p, p < t.length → (t.getD p []).length = 16) : t.flatten.length = 16 * t.length := by
  induction t with
  | nil => rfl
  | cons a r ih =>
    have h0 := h 0 (by simp)
    have h1 := ih (fun p hp => h (p + 1) (by simpa using hp))
    rw [List.flatten_cons, List.length_append, h1, List.length_cons]
    simp only [List.getD_cons_zero] at h0
    omega

/-! the calls -/
theorem rt_new {p : Int} (h : newE p = 0) : Rt (newD p) := by
  have hp : 1 ≤ p ∧ p ≤ 8 := by
    unfold newE at h
    by_cases hp : 1 ≤ p ∧ p ≤ 8
    · exact hp
    · rw [if_neg hp] at h; cases h
  have hd : newD p = ⟨[], List.replicate p.toNat (List.replicate 16 0)⟩ := by unfold newD; rw [if_pos hp]
  rw [hd]
  have hz : ∀ z, z ∈ (List.replicate p.toNat (List.replicate 16 (0 : Int))).flatten → z = 0 := fun z hz => by
    obtain ⟨l, hl, hz⟩ := List.mem_flatten.1 hz
    rw [List.eq_of_mem_replicate hl] at hz
    exact List.eq_of_mem_replicate hz
  refine ⟨by show 1 ≤ (List.replicate _ _).length; rw [List.length_replicate]; omega, by show (List.replicate _ _).length ≤ 8; rw [List.length_replicate]; omega, by show (0 : Nat) ≤ 128; omega, fun q hq => ?_, fun z h1 => ?_, fun i hi => absurd hi (Nat.not_lt_zero _), fun i hi => absurd hi (Nat.not_lt_zero _), fun i hi => absurd hi (Nat.not_lt_zero _), fun n hn => by cases hn⟩
  · show ((List.replicate _ _).getD q []).length = 16
    rw [getD_get hq, List.getElem_replicate, List.length_replicate]
  · rw [hz z h1]; exact ⟨Int.le_refl _, Int.le_refl _⟩
theorem open_ok {d : De} {p fi fl c : Int} (h : openE d p fi fl c = 0) : checkV d = true ∧ 0 ≤ p ∧ p < (d.t.length : Int) ∧ fixB fi fl = true ∧ curB c = true ∧ ∃ f : Nat, f < 16 ∧ fst zeroB (tabAt d p) = f ∧ (tabAt d p).getD f 0 = 0 ∧ ∀ j, j < f → (tabAt d p).getD j 0 ≠ 0 := by
  unfold openE at h
  by_cases h1 : procV d p = 0
  · rw [if_neg (by omega)] at h
    obtain ⟨c1, c2, c3⟩ := procV_ok h1
    cases hb : (fixB fi fl && curB c)
    · rw [hb, if_pos rfl] at h; cases h
    · rw [hb, if_neg (by simp)] at h
      rw [Bool.and_eq_true] at hb
      have h16 := (check_tab c1 p.toNat (by omega)).1
      rcases fst_cases zeroB (tabAt d p) 0 with ⟨hf, _⟩ | ⟨f, hf, hf2, hf3, hf4⟩
      · rw [hf, if_pos (by decide)] at h; cases h
      · refine ⟨c1, c2, c3, hb.1, hb.2, f, by have : (tabAt d p).length = 16 := h16; omega, hf, of_decide_eq_true hf3, fun j hj => of_decide_eq_false (hf4 j hj)⟩
  · rw [if_pos h1] at h; exact absurd h h1
theorem slot_cases (o : List Dn) : (fst noneB o = -1 ∧ slotN o = o.length ∧ ∀ j, j < o.length → o.getD j Dn.zero ≠ Dn.zero) ∨ (slotN o < o.length ∧ fst noneB o = slotN o ∧ o.getD (slotN o) Dn.zero = Dn.zero) := by
  rcases fst_cases noneB o Dn.zero with ⟨h, h2⟩ | ⟨k, h, h2, h3, _⟩
  · exact Or.inl ⟨h, by unfold slotN; rw [h, if_pos (by decide)], fun j hj => of_decide_eq_false (h2 j hj)⟩
  · have e : slotN o = k := by unfold slotN; rw [h, if_neg (by omega), Int.toNat_natCast]
    rw [e]
    exact Or.inr ⟨h2, h, of_decide_eq_true h3⟩
theorem getD_append {α : Type} (l : List α) (x d : α) (i : Nat) : (l ++ [x]).getD i d = if i < l.length then l.getD i d else if i = l.length then x else d := by
  by_cases h : i < l.length
  · rw [if_pos h, getD_get h, getD_get (by simp; omega), List.getElem_append_left h]
  · rw [if_neg h]
    by_cases h2 : i = l.length
    · rw [if_pos h2]
      subst h2
      rw [getD_get (by simp)]
      simp
    · rw [if_neg h2]
      simp [List.getD, List.getElem?_eq_none (show (l ++ [x]).length ≤ i by simp; omega)]
theorem putD_get (o : List Dn) (x : Dn) (i : Nat) : (putD o x).getD i Dn.zero = if i = slotN o then x else o.getD i Dn.zero := by
  unfold putD
  rcases slot_cases o with ⟨h, h2, _⟩ | ⟨h, h2, _⟩
  · rw [if_pos (by rw [h]; decide), getD_append, h2]
    by_cases e : i = o.length
    · rw [if_neg (by omega), if_pos e, if_pos e]
    · by_cases e2 : i < o.length
      · rw [if_pos e2, if_neg e]
      · rw [if_neg e2, if_neg e, if_neg e]
        simp [List.getD, List.getElem?_eq_none (Nat.le_of_not_lt e2)]
  · rw [h2, if_neg (by omega), Int.toNat_natCast]
    by_cases e : i = slotN o
    · rw [if_pos e, e, getD_set_self h]
    · rw [if_neg e, getD_set_ne (fun h => e h.symm)]
theorem putD_len (o : List Dn) (x : Dn) : (putD o x).length = if slotN o = o.length then o.length + 1 else o.length := by
  unfold putD
  rcases slot_cases o with ⟨h, h2, _⟩ | ⟨h, h2, _⟩
  · rw [if_pos (by rw [h]; decide), if_pos h2, List.length_append]; rfl
  · rw [h2, if_neg (by omega), if_neg (by omega), List.length_set]
theorem rt_open {d : De} {p fi fl c : Int} (hd : Rt d) : Rt (openD d p fi fl c) := by
  unfold openD
  by_cases h : openE d p fi fl c = 0
  · rw [if_pos h]
    obtain ⟨_, c2, c3, b1, b2, f, hf, hff, hf0, _⟩ := open_ok h
    rw [hff, Int.toNat_natCast]
    have hp : p.toNat < d.t.length := by omega
    have hrow := hd.rows _ hp
    have hn := fun i => nref_set d.t p.toNat f ((slotN d.o : Int) + 1) hp (by omega) i
    have he : (d.t.getD p.toNat []).getD f 0 = 0 := hf0
    have hn2 : ∀ i, nref (setE d.t p.toNat f ((slotN d.o : Int) + 1)) i = nref d.t i + (if i = slotN d.o then 1 else 0) := fun i => by
      have := hn i
      rw [he, if_neg (by omega)] at this
      by_cases e : i = slotN d.o
      · rw [if_pos (by omega)] at this ⊢
        omega
      · rw [if_neg (by omega)] at this ⊢
        omega
    have hslot : nref d.t (slotN d.o) = 0 := by
      rcases slot_cases d.o with ⟨_, h2, _⟩ | ⟨h1, _, h3⟩
      · exact nref_big hd _ (by omega)
      · have := hd.rf _ h1
        rw [h3] at this
        have h0 : (0 : Int) = (nref d.t (slotN d.o) : Int) := this
        omega
    have hle : slotN d.o ≤ d.o.length := by rcases slot_cases d.o with ⟨_, h2, _⟩ | ⟨h1, _, _⟩ <;> omega
    have hlen : d.o.length ≤ (putD d.o ⟨fi, fl, 0, c, 1⟩).length ∧ slotN d.o < (putD d.o ⟨fi, fl, 0, c, 1⟩).length := by
      rw [putD_len]; split <;> omega
    have hlen2 : ∀ i, i < (putD d.o ⟨fi, fl, 0, c, 1⟩).length → i ≠ slotN d.o → i < d.o.length := fun i hi hne => by
      rw [putD_len] at hi; split at hi <;> omega
    refine ⟨by rw [show (De.t ⟨_, setE d.t _ _ _⟩) = setE d.t _ _ _ from rfl, setE_len]; exact hd.t1, by rw [show (De.t ⟨_, setE d.t _ _ _⟩) = setE d.t _ _ _ from rfl, setE_len]; exact hd.t8, ?_, fun q hq => by show ((setE _ _ _ _).getD q []).length = 16; rw [setE_row]; exact hd.rows q (by rw [← setE_len]; exact hq), fun z hz => ?_, fun i hi => ?_, fun i hi h0 => ?_, fun i hi h0 => ?_, fun n hn' => ?_⟩
    · show (putD d.o _).length ≤ 128
      rw [putD_len]
      split
      · rename_i hs
        have hall : ∀ k : Nat, k ≤ d.o.length → (k : Int) ∈ d.t.flatten := fun k hk => by
          cases k with
          | zero => rw [show ((0 : Nat) : Int) = (d.t.getD p.toNat []).getD f 0 from he.symm]; exact ent_mem hp (by omega)
          | succ k =>
            have hk' : k < d.o.length := by omega
            have : 0 < nref d.t k := by
              rcases Nat.eq_zero_or_pos (nref d.t k) with h0 | h0
              · rcases slot_cases d.o with ⟨_, _, h3⟩ | ⟨h1, _, _⟩
                · exact absurd (hd.zero k hk' h0) (h3 k hk')
                · omega
              · exact h0
            have := nref_mem.1 this
            rw [show ((k + 1 : Nat) : Int) = (k : Int) + 1 by omega]
            exact this
        have h1 := pig d.o.length d.t.flatten hall
        rw [flat_len hd.rows] at h1
        have := hd.t8
        omega
      · exact hd.o128
    · rcases setE_mem hp hz with hz | rfl
      · have := hd.ent z hz
        show 0 ≤ z ∧ z ≤ ((putD d.o _).length : Int)
        omega
      · show (0 : Int) ≤ _ ∧ _ ≤ ((putD d.o _).length : Int)
        omega
    · show ((putD d.o _).getD i Dn.zero).rf = _
      rw [putD_get, hn2]
      by_cases e : i = slotN d.o
      · rw [if_pos e, if_pos e, e, hslot]; rfl
      · rw [if_neg e, if_neg e]
        exact hd.rf i (hlen2 i hi e)
    · show (putD d.o _).getD i Dn.zero = _
      rw [show nref (De.t ⟨_, setE d.t p.toNat f _⟩) i = nref (setE d.t p.toNat f _) i from rfl, hn2] at h0
      rw [putD_get]
      by_cases e : i = slotN d.o
      · rw [if_pos e] at h0; omega
      · rw [if_neg e] at h0 ⊢
        exact hd.zero i (hlen2 i hi e) h0
    · show rightD ((putD d.o _).getD i Dn.zero) = true
      rw [show nref (De.t ⟨_, setE d.t p.toNat f _⟩) i = nref (setE d.t p.toNat f _) i from rfl, hn2] at h0
      rw [putD_get]
      by_cases e : i = slotN d.o
      · rw [if_pos e]
        unfold rightD movB
        rw [b1, b2]; rfl
      · rw [if_neg e] at h0 ⊢
        exact hd.pos i (hlen2 i hi e) h0
    · show 0 < nref (setE d.t p.toNat f _) n
      rw [hn2]
      have hn'' : (putD d.o ⟨fi, fl, 0, c, 1⟩).length = n + 1 := hn'
      rw [putD_len] at hn''
      split at hn''
      · rename_i hs
        rw [if_pos (by omega)]; omega
      · have := hd.last n hn''
        omega
  · rw [if_neg h]
    exact hd
end Go.Proofs.YtimhaidiclbnhaaGreat.Des
/- Check: the document's. -/
set_option maxRecDepth 100000
set_option linter.unusedSimpArgs false
set_option linter.unusedVariables false
namespace Go.Proofs.YtimhaidiclbnhaaGreat.Des
open Go.ChangeShapes Go.WideShapes Go.ChangeAt Go.RowKit

end Go.Proofs.YtimhaidiclbnhaaGreat.Des
