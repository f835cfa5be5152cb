/- What is opened or duplicated and closed again leaves everything as it was. -/
import Derived.Test.YtflcbefomjlgmaaPd
set_option linter.unusedSimpArgs false
set_option linter.unusedVariables false
namespace Go.Proofs.Ytflcbefomjlgmaa
open Go.ChangeShapes Go.WideShapes Go.ChangeAt Go.RowKit

theorem trim_id {d : De} (h : Rt d) : trim d.o = d.o := by
  obtain ⟨m, m1, m2, m3, _⟩ := trim_spec d.o
  rw [m2]
  by_cases e : m = d.o.length
  · rw [e, List.take_length]
  · exfalso
    have h1 := m3 (d.o.length - 1) (by omega) (by omega)
    rw [h.rf _ (by omega)] at h1
    have h2 := h.last (d.o.length - 1) (by omega)
    omega
theorem setE_setE (t : List (List Int)) (p f : Nat) (y z : Int) (hp : p < t.length) : setE (setE t p f y) p f z = setE t p f z := by
  unfold setE
  rw [getD_set_self hp, List.set_set, List.set_set]
theorem set_getD {α : Type} (l : List α) (i : Nat) (d : α) (hi : i < l.length) : l.set i (l.getD i d) = l := by rw [getD_get hi]; simp
theorem setE_id (t : List (List Int)) (p f : Nat) (z : Int) (hp : p < t.length) (hf : f < (t.getD p []).length) (hz : (t.getD p []).getD f 0 = z) : setE t p f z = t := by
  unfold setE
  rw [← hz, set_getD _ _ _ hf, set_getD _ _ _ hp]
theorem setE_at (t : List (List Int)) (p f : Nat) (z : Int) (hp : p < t.length) (hf : f < (t.getD p []).length) : ((setE t p f z).getD p []).getD f 0 = z := by
  unfold setE
  rw [getD_set_self hp, getD_set_self hf]
theorem procV_of {d : De} {p : Int} (h : checkV d = true) (h0 : 0 ≤ p) (h1 : p < (d.t.length : Int)) : procV d p = 0 := by
  unfold procV
  rw [if_neg (by rw [h]; simp), if_neg (by omega)]
theorem numE_of {d : De} {k j q : Nat} (h : checkV d = true) (hk : k < d.t.length) (hj : j < 16) (he : (d.t.getD k []).getD j 0 = (q : Int) + 1) : numE d (k : Int) (j : Int) = 0 ∧ numV d (k : Int) (j : Int) = (q : Int) := by
  have e : entAt d (k : Int) (j : Int) = (q : Int) + 1 := by unfold entAt tabAt; rw [Int.toNat_natCast, Int.toNat_natCast]; exact he
  have h1 : numE d (k : Int) (j : Int) = 0 := by
    unfold numE
    rw [procV_of h (by omega) (by omega), if_neg (by simp), if_neg (by omega)]
  refine ⟨h1, ?_⟩
  unfold numV
  rw [if_pos h1, e]
  omega
theorem undone_open {d : De} {p fi fl c : Int} (hd : Rt d) (h : openE d p fi fl c = 0) : numE (openD d p fi fl c) p (openF d p fi fl c) = 0 ∧ closeG (openD d p fi fl c) p (openF d p fi fl c) = true ∧ closeD (openD d p fi fl c) p (openF d p fi fl c) = d := by
  obtain ⟨_, c2, c3, _, _, f, hf, hff, hf0, _⟩ := open_ok h
  obtain ⟨k, rfl⟩ : ∃ k : Nat, p = (k : Int) := ⟨p.toNat, by omega⟩
  have hk : k < d.t.length := by omega
  have hrow := hd.rows _ hk
  have he : (d.t.getD k []).getD f 0 = 0 := hf0
  have e1 : openD d (k : Int) fi fl c = ⟨putD d.o ⟨fi, fl, 0, c, 1⟩, setE d.t k f ((slotN d.o : Int) + 1)⟩ := by
    unfold openD; rw [if_pos h, hff, Int.toNat_natCast, Int.toNat_natCast]
  have e2 : openF d (k : Int) fi fl c = (f : Int) := by unfold openF; rw [if_pos h, hff]
  have hd1 := rt_open (p := (k : Int)) (fi := fi) (fl := fl) (c := c) hd
  rw [e1] at hd1 ⊢
  rw [e2]
  obtain ⟨n1, n2⟩ := numE_of (d := ⟨putD d.o ⟨fi, fl, 0, c, 1⟩, setE d.t k f ((slotN d.o : Int) + 1)⟩) (q := slotN d.o) (rt_check hd1) (by show k < (setE _ _ _ _).length; rw [setE_len]; exact hk) hf (setE_at _ _ _ _ hk (by omega))
  have hr : ((putD d.o ⟨fi, fl, 0, c, 1⟩).getD (slotN d.o) Dn.zero).rf - 1 ≤ 0 := by rw [putD_get, if_pos rfl]; show (1 : Int) - 1 ≤ 0; omega
  refine ⟨n1, ?_, ?_⟩
  · unfold closeG
    rw [n1, n2, Int.toNat_natCast, decide_eq_true (rfl : (0 : Int) = 0), decide_eq_true hr]; rfl
  · unfold closeD
    rw [if_pos n1, n2, Int.toNat_natCast, Int.toNat_natCast, Int.toNat_natCast, if_pos hr]
    refine De.ext' ?_ ?_
    · show trim ((putD d.o _).set (slotN d.o) Dn.zero) = d.o
      unfold putD
      rcases slot_cases d.o with ⟨h1, h2, _⟩ | ⟨h1, h2, h3⟩
      · rw [if_pos (by rw [h1]; decide), h2, List.set_append_right _ _ (Nat.le_refl _), Nat.sub_self]
        show trim (d.o ++ [Dn.zero]) = d.o
        rw [trim_drop _ _ rfl, trim_id hd]
      · rw [h2, if_neg (by omega), Int.toNat_natCast, List.set_set]
        have := set_getD d.o (slotN d.o) Dn.zero h1
        rw [h3] at this
        rw [this, trim_id hd]
    · show setE (setE d.t k f _) k f 0 = d.t
      rw [setE_setE _ _ _ _ _ hk, setE_id _ _ _ _ hk (by omega) he]
theorem undone_dup {d : De} {p f : Int} (hd : Rt d) (h : dupE d p f = 0) : numE (dupD d p f) p (dupF d p f) = 0 ∧ closeG (dupD d p f) p (dupF d p f) = false ∧ closeD (dupD d p f) p (dupF d p f) = d := by
  obtain ⟨h1, j, hj, hjf, hj0, _⟩ := dup_ok h
  obtain ⟨k, _, q, rfl, _, hk, _, hq, hv, _, hpos⟩ := num_ref h1
  have hrow := hd.rows _ hk
  have he : (d.t.getD k []).getD j 0 = 0 := hj0
  have e1 : dupD d (k : Int) f = ⟨bumpL d.o q 1, setE d.t k j ((q : Int) + 1)⟩ := by
    unfold dupD; rw [if_pos h, hv, hjf, Int.toNat_natCast, Int.toNat_natCast, Int.toNat_natCast]
  have e2 : dupF d (k : Int) f = (j : Int) := by unfold dupF; rw [if_pos h, hjf]
  have hd1 := rt_dup (p := (k : Int)) (f := f) hd
  rw [e1] at hd1 ⊢
  rw [e2]
  obtain ⟨n1, n2⟩ := numE_of (d := ⟨bumpL d.o q 1, setE d.t k j ((q : Int) + 1)⟩) (q := q) (rt_check hd1) (by show k < (setE _ _ _ _).length; rw [setE_len]; exact hk) hj (setE_at _ _ _ _ hk (by omega))
  have hrq := hd.rf q hq
  have hg : (bumpL d.o q 1).getD q Dn.zero = bump (d.o.getD q Dn.zero) ((d.o.getD q Dn.zero).rf + 1) := by rw [bumpL_get _ _ _ _ hq, if_pos rfl]
  have hr : ¬ (((bumpL d.o q 1).getD q Dn.zero).rf - 1 ≤ 0) := by
    rw [hg]
    show ¬ ((d.o.getD q Dn.zero).rf + 1 - 1 ≤ 0)
    omega
  refine ⟨n1, ?_, ?_⟩
  · unfold closeG
    rw [n1, n2, Int.toNat_natCast, decide_eq_false hr, Bool.and_false]
  · unfold closeD
    rw [if_pos n1, n2, Int.toNat_natCast, Int.toNat_natCast, Int.toNat_natCast, if_neg hr]
    refine De.ext' ?_ ?_
    · show bumpL (bumpL d.o q 1) q (-1) = d.o
      unfold bumpL at hg ⊢
      rw [hg, List.set_set]
      have : bump (bump (d.o.getD q Dn.zero) ((d.o.getD q Dn.zero).rf + 1)) ((bump (d.o.getD q Dn.zero) ((d.o.getD q Dn.zero).rf + 1)).rf + -1) = d.o.getD q Dn.zero := by
        unfold bump
        simp only
        rw [show (d.o.getD q Dn.zero).rf + 1 + -1 = (d.o.getD q Dn.zero).rf by omega]
      rw [this, set_getD _ _ _ hq]
    · show setE (setE d.t k j _) k j 0 = d.t
      rw [setE_setE _ _ _ _ _ hk, setE_id _ _ _ _ hk (by omega) he]
end Go.Proofs.Ytflcbefomjlgmaa
