/- What one process opens, duplicates and closes changes no descriptor of another. -/
import Derived.Test.YtflcbefomjlgmaaPd
set_option linter.unusedSimpArgs false
set_option linter.unusedVariables false
namespace Go.Proofs.Ytflcbefomjlgmaa
open Go.ChangeShapes Go.WideShapes Go.ChangeAt Go.RowKit

theorem getD_mem {α : Type} (l : List α) (d : α) (i : Nat) (h : i < l.length) : l.getD i d ∈ l := by rw [getD_get h]; exact List.getElem_mem h
/-- process 1 sees in x what it saw in d -/
structure See (d x : De) : Prop where
  rt : Rt x
  len : x.t.length = d.t.length
  row : x.t.getD 1 [] = d.t.getD 1 []
  desc : ∀ q : Nat, ((q : Int) + 1) ∈ d.t.getD 1 [] → ∃ r, x.o.getD q Dn.zero = bump (d.o.getD q Dn.zero) r
theorem See.refl {d : De} (h : Rt d) : See d d := ⟨h, rfl, rfl, fun _ _ => ⟨_, rfl⟩⟩
theorem count_two (t : List (List Int)) (v : Int) (h : 2 ≤ t.length) : (t.getD 0 []).count v + (t.getD 1 []).count v ≤ t.flatten.count v := by
  match t, h with
  | a :: b :: r, _ =>
    simp only [List.flatten_cons, List.count_append, List.getD_cons_zero, List.getD_cons_succ]
    omega
theorem see_open {d x : De} {fi fl c : Int} (h2 : 2 ≤ d.t.length) (h : See d x) : See d (openD x 0 fi fl c) := by
  have hr := rt_open (p := (0 : Int)) (fi := fi) (fl := fl) (c := c) h.rt
  by_cases ho : openE x 0 fi fl c = 0
  · have e : openD x 0 fi fl c = ⟨putD x.o ⟨fi, fl, 0, c, 1⟩, setE x.t 0 (fst zeroB (tabAt x 0)).toNat ((slotN x.o : Int) + 1)⟩ := by
      unfold openD; rw [if_pos ho]; rfl
    rw [e] at hr ⊢
    refine ⟨hr, by show (setE _ _ _ _).length = _; rw [setE_len]; exact h.len, ?_, fun q hq => ?_⟩
    · show (setE x.t 0 _ _).getD 1 [] = _
      unfold setE
      rw [getD_set_ne (by decide)]
      exact h.row
    · obtain ⟨r, hr1⟩ := h.desc q hq
      refine ⟨r, ?_⟩
      show (putD x.o _).getD q Dn.zero = _
      rw [putD_get, if_neg]
      · exact hr1
      · intro e1
        have h1 : 0 < nref x.t q := by
          have := count_two x.t ((q : Int) + 1) (by rw [h.len]; exact h2)
          rw [h.row] at this
          have := List.count_pos_iff.2 hq
          unfold nref
          omega
        rcases slot_cases x.o with ⟨_, s2, _⟩ | ⟨s1, _, s3⟩
        · have := nref_big h.rt q (by omega)
          omega
        · have h3 := h.rt.rf q (by omega)
          rw [e1, s3, ← e1] at h3
          have h4 : (0 : Int) = (nref x.t q : Int) := h3
          omega
  · have e : openD x 0 fi fl c = x := by unfold openD; rw [if_neg ho]
    rw [e]; exact h
theorem see_dup {d x : De} {f : Int} (h : See d x) : See d (dupD x 0 f) := by
  have hr := rt_dup (p := (0 : Int)) (f := f) h.rt
  by_cases ho : dupE x 0 f = 0
  · obtain ⟨h1, _⟩ := dup_ok ho
    obtain ⟨k, j, q0, hk, _, _, _, hq0, hv, _, _⟩ := num_ref h1
    have e : dupD x 0 f = ⟨bumpL x.o q0 1, setE x.t 0 (fst zeroB (tabAt x 0)).toNat ((q0 : Int) + 1)⟩ := by
      unfold dupD; rw [if_pos ho, hv, Int.toNat_natCast]; rfl
    rw [e] at hr ⊢
    refine ⟨hr, by show (setE _ _ _ _).length = _; rw [setE_len]; exact h.len, ?_, fun q hq => ?_⟩
    · show (setE x.t 0 _ _).getD 1 [] = _
      unfold setE
      rw [getD_set_ne (by decide)]
      exact h.row
    · obtain ⟨r, hr1⟩ := h.desc q hq
      show ∃ r, (bumpL x.o q0 1).getD q Dn.zero = _
      rw [bumpL_get _ _ _ _ hq0]
      by_cases e1 : q = q0
      · rw [if_pos e1, ← e1, hr1]; exact ⟨_, rfl⟩
      · rw [if_neg e1]; exact ⟨r, hr1⟩
  · have e : dupD x 0 f = x := by unfold dupD; rw [if_neg ho]
    rw [e]; exact h
theorem see_close {d x : De} {f : Int} (h2 : 2 ≤ d.t.length) (h : See d x) : See d (closeD x 0 f) := by
  have hr := rt_close (p := (0 : Int)) (f := f) h.rt
  by_cases ho : numE x 0 f = 0
  · obtain ⟨k, j, q0, hk, hj, hkl, hj16, hq0, hv, he, hpos⟩ := num_ref ho
    have hk0 : k = 0 := by omega
    subst hk0
    have e : closeD x 0 f = ⟨if (x.o.getD q0 Dn.zero).rf - 1 ≤ 0 then trim (x.o.set q0 Dn.zero) else bumpL x.o q0 (-1), setE x.t 0 f.toNat 0⟩ := by
      unfold closeD; rw [if_pos ho, hv, Int.toNat_natCast]; rfl
    rw [e] at hr ⊢
    refine ⟨hr, by show (setE _ _ _ _).length = _; rw [setE_len]; exact h.len, ?_, fun q hq => ?_⟩
    · show (setE x.t 0 _ _).getD 1 [] = _
      unfold setE
      rw [getD_set_ne (by decide)]
      exact h.row
    · obtain ⟨r, hr1⟩ := h.desc q hq
      have h16 := h.rt.rows 0 hkl
      have hrq := h.rt.rf q0 hq0
      have hc := count_two x.t ((q : Int) + 1) (by rw [h.len]; exact h2)
      rw [h.row] at hc
      have hc1 := List.count_pos_iff.2 hq
      have hqn : 0 < nref x.t q := by unfold nref; omega
      have hql : q < x.o.length := by
        rcases Nat.lt_or_ge q x.o.length with a | a
        · exact a
        · have := nref_big h.rt q a; omega
      have hrf := h.rt.rf q hql
      have hmem : ((q0 : Int) + 1) ∈ x.t.getD 0 [] := by
        rw [← he]; exact getD_mem _ _ _ (by omega)
      have hc2 := List.count_pos_iff.2 hmem
      show ∃ r, (if (x.o.getD q0 Dn.zero).rf - 1 ≤ 0 then trim (x.o.set q0 Dn.zero) else bumpL x.o q0 (-1)).getD q Dn.zero = _
      by_cases hg : (x.o.getD q0 Dn.zero).rf - 1 ≤ 0
      · rw [if_pos hg]
        have hne : q ≠ q0 := fun e1 => by
          rw [← e1] at hc2 hg hrq
          unfold nref at hrq
          omega
        obtain ⟨m, m1, m2, m3, _⟩ := trim_spec (x.o.set q0 Dn.zero)
        rw [List.length_set] at m1 m3
        have hgq : (x.o.set q0 Dn.zero).getD q Dn.zero = x.o.getD q Dn.zero := getD_set_ne (fun a => hne a.symm)
        have hqm : q < m := by
          rcases Nat.lt_or_ge q m with a | a
          · exact a
          · have := m3 q a hql
            rw [hgq] at this
            omega
        refine ⟨r, ?_⟩
        rw [m2, getD_get (by rw [List.length_take, List.length_set]; omega), List.getElem_take, ← getD_get (d := Dn.zero) (by rw [List.length_set]; exact hql), hgq]
        exact hr1
      · rw [if_neg hg, bumpL_get _ _ _ _ hq0]
        by_cases e1 : q = q0
        · rw [if_pos e1, ← e1, hr1]; exact ⟨_, rfl⟩
        · rw [if_neg e1]; exact ⟨r, hr1⟩
  · have e : closeD x 0 f = x := by unfold closeD; rw [if_neg ho]
    rw [e]; exact h
/-- what process 1 looks up is the same but for the references -/
theorem see_look {d x : De} (hd : Rt d) (h2 : 2 ≤ d.t.length) (h : See d x) (f : Int) : numE x 1 f = numE d 1 f ∧ numV x 1 f = numV d 1 f ∧ ∃ r, lookV x 1 f = bump (lookV d 1 f) r := by
  have p1 : procV d 1 = 0 := by
    unfold procV
    rw [if_neg (by rw [rt_check hd]; simp), if_neg (by omega)]
  have p2 : procV x 1 = 0 := by
    unfold procV
    rw [if_neg (by rw [rt_check h.rt]; simp), if_neg (by rw [h.len]; omega)]
  have e1 : entAt x 1 f = entAt d 1 f := by
    unfold entAt tabAt
    rw [show (1 : Int).toNat = 1 from rfl, h.row]
  have hn : numE x 1 f = numE d 1 f := by unfold numE; rw [p1, p2, e1]
  have hv : numV x 1 f = numV d 1 f := by unfold numV; rw [hn, e1]
  refine ⟨hn, hv, ?_⟩
  unfold lookV
  rw [hn, hv]
  by_cases h0 : numE d 1 f = 0
  · rw [if_pos h0, if_pos h0]
    obtain ⟨k, j, q, hk, hj, hkl, hj16, hq, hq2, he, _⟩ := num_ref h0
    have hk1 : k = 1 := by omega
    subst hk1
    rw [hq2, Int.toNat_natCast]
    have h16 := hd.rows 1 hkl
    refine h.desc q ?_
    rw [← he]; exact getD_mem _ _ _ (by omega)
  · rw [if_neg h0, if_neg h0]
    exact ⟨0, rfl⟩
end Go.Proofs.Ytflcbefomjlgmaa
