/- Layer 46, shared texts of this seat, part 09. -/
import Derived.Test.YtimhaidiclbnhaaGreatM06
import Derived.Test.YtimhaidiclbnhaaGreatM08
/- What keeps descriptors right: Dup, Close, Fork, Update. -/
set_option maxRecDepth 100000
set_option linter.unusedSimpArgs false
set_option linter.unusedVariables false
namespace Go.Proofs.YtimhaidiclbnhaaGreat.Des
open Go.ChangeShapes Go.WideShapes Go.ChangeAt Go.RowKit

theorem num_ref {d : De} {p f : Int} (h : numE d p f = 0) : ∃ (k j q : Nat), p = (k : Int) ∧ f = (j : Int) ∧ k < d.t.length ∧ j < 16 ∧ q < d.o.length ∧ numV d p f = (q : Int) ∧ (d.t.getD k []).getD j 0 = (q : Int) + 1 ∧ 0 < nref d.t q := by
  obtain ⟨h1, h2, h3, h4, h5, q, h6, h7, h8⟩ := num_ok h
  have hd := check_rt h1
  have e1 : p = (p.toNat : Int) := by omega
  have e2 : f = (f.toNat : Int) := by omega
  have hk : p.toNat < d.t.length := by omega
  have h16 := hd.rows _ hk
  have h9 : (d.t.getD p.toNat []).getD f.toNat 0 = (q : Int) + 1 := h8
  refine ⟨p.toNat, f.toNat, q, e1, e2, hk, by omega, h6, h7, h9, nref_mem.2 ?_⟩
  rw [← h9]
  exact ent_mem hk (by omega)
theorem bumpL_get (o : List Dn) (n : Nat) (k : Int) (i : Nat) (hn : n < o.length) : (bumpL o n k).getD i Dn.zero = if i = n then bump (o.getD n Dn.zero) ((o.getD n Dn.zero).rf + k) else o.getD i Dn.zero := by
  unfold bumpL
  by_cases e : i = n
  · rw [if_pos e, e, getD_set_self hn]
  · rw [if_neg e, getD_set_ne (fun h => e h.symm)]
theorem dup_ok {d : De} {p f : Int} (h : dupE d p f = 0) : numE d p f = 0 ∧ ∃ j : Nat, j < 16 ∧ fst zeroB (tabAt d p) = j ∧ (tabAt d p).getD j 0 = 0 ∧ ∀ i, i < j → (tabAt d p).getD i 0 ≠ 0 := by
  unfold dupE at h
  by_cases h1 : numE d p f = 0
  · rw [if_neg (by omega)] at h
    obtain ⟨c1, c2, c3, _⟩ := num_ok h1
    have h16 := (check_tab c1 p.toNat (by omega)).1
    rcases fst_cases zeroB (tabAt d p) 0 with ⟨hf, _⟩ | ⟨j, hf, hf2, hf3, hf4⟩
    · rw [hf, if_pos (by decide)] at h; cases h
    · exact ⟨h1, j, by have : (tabAt d p).length = 16 := h16; omega, hf, of_decide_eq_true hf3, fun i hi => of_decide_eq_false (hf4 i hi)⟩
  · rw [if_pos h1] at h; exact absurd h h1
/-- more references, no other change: the descriptions stay right -/
theorem rt_more {d : De} {o' : List Dn} {t' : List (List Int)} (hd : Rt d) (hl : o'.length = d.o.length) (ht : t'.length = d.t.length) (hrow : ∀ p, p < d.t.length → (t'.getD p []).length = 16) (hent : ∀ z, z ∈ t'.flatten → 0 ≤ z ∧ z ≤ (d.o.length : Int))
    (hsame : ∀ i, i < d.o.length → ∃ r, o'.getD i Dn.zero = bump (d.o.getD i Dn.zero) r) (hrf : ∀ i, i < d.o.length → (o'.getD i Dn.zero).rf = (nref t' i : Int)) (hge : ∀ i, i < d.o.length → nref d.t i ≤ nref t' i) (hz : ∀ i, i < d.o.length → nref d.t i = 0 → nref t' i = 0) : Rt ⟨o', t'⟩ := by
  refine ⟨by show 1 ≤ t'.length; rw [ht]; exact hd.t1, by show t'.length ≤ 8; rw [ht]; exact hd.t8, by show o'.length ≤ 128; rw [hl]; exact hd.o128, fun p hp => hrow p (by rw [← ht]; exact hp), fun z h => by show 0 ≤ z ∧ z ≤ (o'.length : Int); rw [hl]; exact hent z h, fun i hi => hrf i (by rw [← hl]; exact hi), fun i hi h0 => ?_, fun i hi h0 => ?_, fun n hn => ?_⟩
  · have hi' : i < d.o.length := by rw [← hl]; exact hi
    have h0' : nref t' i = 0 := h0
    have h1 : nref d.t i = 0 := by have := hge i hi'; omega
    obtain ⟨r, hr⟩ := hsame i hi'
    have h2 := hrf i hi'
    rw [hd.zero i hi' h1] at hr
    rw [hr] at h2
    have h3 : r = 0 := by have : r = (nref t' i : Int) := h2; omega
    rw [h3] at hr
    exact hr
  · have hi' : i < d.o.length := by rw [← hl]; exact hi
    have h0' : 0 < nref t' i := h0
    have h1 : 0 < nref d.t i := by
      rcases Nat.eq_zero_or_pos (nref d.t i) with h | h
      · have := hz i hi' h; omega
      · exact h
    obtain ⟨r, hr⟩ := hsame i hi'
    show rightD (o'.getD i Dn.zero) = true
    rw [hr]
    exact hd.pos i hi' h1
  · have hn' : d.o.length = n + 1 := by rw [← hl]; exact hn
    have := hd.last n hn'
    have := hge n (by omega)
    show 0 < nref t' n
    omega
theorem rt_dup {d : De} {p f : Int} (hd : Rt d) : Rt (dupD d p f) := by
  unfold dupD
  by_cases h : dupE d p f = 0
  · rw [if_pos h]
    obtain ⟨h1, j, hj, hjf, hj0, _⟩ := dup_ok h
    obtain ⟨k, _, q, rfl, _, hk, _, hq, hv, _, hpos⟩ := num_ref h1
    rw [hv, hjf, Int.toNat_natCast, Int.toNat_natCast, Int.toNat_natCast]
    have hrow := hd.rows _ hk
    have he : (d.t.getD k []).getD j 0 = 0 := hj0
    have hn2 : ∀ i, nref (setE d.t k j ((q : Int) + 1)) i = nref d.t i + (if i = q then 1 else 0) := fun i => by
      have := nref_set d.t k j ((q : Int) + 1) hk (by omega) i
      rw [he, if_neg (by omega)] at this
      by_cases e : i = q
      · rw [if_pos (by omega)] at this ⊢
        omega
      · rw [if_neg (by omega)] at this ⊢
        omega
    refine rt_more hd (bumpL_len _ _ _) (setE_len _ _ _ _) (fun p hp => by rw [setE_row]; exact hd.rows p hp) (fun z hz => ?_) (fun i hi => ?_) (fun i hi => ?_) (fun i hi => by rw [hn2]; omega) (fun i hi h0 => ?_)
    · rcases setE_mem hk hz with hz | rfl
      · exact hd.ent z hz
      · omega
    · rw [bumpL_get _ _ _ _ hq]
      by_cases e : i = q
      · rw [if_pos e, e]; exact ⟨_, rfl⟩
      · rw [if_neg e]; exact ⟨(d.o.getD i Dn.zero).rf, rfl⟩
    · rw [bumpL_get _ _ _ _ hq, hn2]
      by_cases e : i = q
      · rw [if_pos e, if_pos e, e]
        have := hd.rf q hq
        show (d.o.getD q Dn.zero).rf + 1 = _
        omega
      · rw [if_neg e, if_neg e]
        exact hd.rf i hi
    · rw [hn2, h0]
      by_cases e : i = q
      · rw [e] at h0; omega
      · rw [if_neg e]
  · rw [if_neg h]
    exact hd
theorem trim_spec (o : List Dn) : ∃ m, m ≤ o.length ∧ trim o = o.take m ∧ (∀ i, m ≤ i → i < o.length → (o.getD i Dn.zero).rf = 0) ∧ (∀ k, m = k + 1 → (o.getD k Dn.zero).rf ≠ 0) := by
  generalize hn : o.length = n
  induction n generalizing o with
  | zero =>
    have h0 := List.length_eq_zero_iff.1 hn
    subst h0
    exact ⟨0, Nat.le_refl _, rfl, fun i _ h => absurd h (Nat.not_lt_zero _), fun k h => by cases h⟩
  | succ n ih =>
    have e : o = o.take n ++ [o.getD n Dn.zero] := by
      have := take_last o n (by omega)
      rw [List.take_of_length_le (by omega)] at this
      exact this
    have hl : (o.take n).length = n := by rw [List.length_take]; omega
    by_cases h : (o.getD n Dn.zero).rf = 0
    · obtain ⟨m, m1, m2, m3, m4⟩ := ih (o.take n) hl
      have hg : ∀ i, i < n → (o.take n).getD i Dn.zero = o.getD i Dn.zero := fun i hi => by
        rw [getD_get (by omega), getD_get (by omega), List.getElem_take]
      refine ⟨m, by omega, ?_, fun i hi hi2 => ?_, fun k hk => ?_⟩
      · have h1 := trim_drop (o.take n) _ h
        rw [← e, m2, List.take_take, Nat.min_eq_left m1] at h1
        exact h1
      · by_cases hin : i = n
        · rw [hin]; exact h
        · rw [← hg i (by omega)]; exact m3 i hi (by omega)
      · rw [← hg k (by omega)]; exact m4 k hk
    · refine ⟨n + 1, Nat.le_refl _, ?_, fun i hi hi2 => by omega, fun k hk => ?_⟩
      · have h1 := trim_keep (o.take n) _ h
        rw [← e] at h1
        rw [h1, List.take_of_length_le (by omega)]
      · cases hk; exact h
/-- a description of which no descriptor is left goes; the rest stays right -/
theorem rt_trim {o : List Dn} {t : List (List Int)} (ht1 : 1 ≤ t.length) (ht8 : t.length ≤ 8) (ho : o.length ≤ 128) (hrow : ∀ p, p < t.length → (t.getD p []).length = 16) (hent : ∀ z, z ∈ t.flatten → 0 ≤ z ∧ z ≤ (o.length : Int))
    (hrf : ∀ i, i < o.length → (o.getD i Dn.zero).rf = (nref t i : Int)) (hz : ∀ i, i < o.length → nref t i = 0 → o.getD i Dn.zero = Dn.zero) (hpos : ∀ i, i < o.length → 0 < nref t i → rightD (o.getD i Dn.zero) = true) : Rt ⟨trim o, t⟩ := by
  obtain ⟨m, m1, m2, m3, m4⟩ := trim_spec o
  rw [m2]
  have hl : (o.take m).length = m := by rw [List.length_take]; omega
  have hg : ∀ i, i < m → (o.take m).getD i Dn.zero = o.getD i Dn.zero := fun i hi => by
    rw [getD_get (by omega), getD_get (by omega), List.getElem_take]
  refine ⟨ht1, ht8, by show (o.take m).length ≤ 128; omega, hrow, fun z hz' => ?_, fun i hi => ?_, fun i hi h0 => ?_, fun i hi h0 => ?_, fun n hn => ?_⟩
  · have h1 := hent z hz'
    refine ⟨h1.1, ?_⟩
    show z ≤ ((o.take m).length : Int)
    rw [hl]
    by_cases hb : z ≤ (m : Int)
    · exact hb
    · exfalso
      have h2 : 0 < nref t (z - 1).toNat := nref_mem.2 (by rw [show (((z - 1).toNat : Nat) : Int) + 1 = z by omega]; exact hz')
      have h3 := hrf (z - 1).toNat (by omega)
      rw [m3 (z - 1).toNat (by omega) (by omega)] at h3
      omega
  · show ((o.take m).getD i Dn.zero).rf = _
    have hi' : i < m := by rw [← hl]; exact hi
    rw [hg i hi']
    exact hrf i (by omega)
  · show (o.take m).getD i Dn.zero = _
    have hi' : i < m := by rw [← hl]; exact hi
    rw [hg i hi']
    exact hz i (by omega) h0
  · show rightD ((o.take m).getD i Dn.zero) = true
    have hi' : i < m := by rw [← hl]; exact hi
    rw [hg i hi']
    exact hpos i (by omega) h0
  · show 0 < nref t n
    have hn' : m = n + 1 := by rw [← hl]; exact hn
    have h1 := m4 n hn'
    have h2 := hrf n (by omega)
    omega
theorem rt_close {d : De} {p f : Int} (hd : Rt d) : Rt (closeD d p f) := by
  unfold closeD
  by_cases h : numE d p f = 0
  · rw [if_pos h]
    obtain ⟨k, j, q, rfl, rfl, hk, hj, hq, hv, he, hpos⟩ := num_ref h
    rw [hv, Int.toNat_natCast, Int.toNat_natCast, Int.toNat_natCast]
    have hrow := hd.rows _ hk
    have hrq := hd.rf q hq
    have hn2 : ∀ i, nref (setE d.t k j 0) i + (if i = q then 1 else 0) = nref d.t i := fun i => by
      have := nref_set d.t k j 0 hk (by omega) i
      rw [he, if_neg (by omega : ¬ ((0 : Int) = (i : Int) + 1))] at this
      by_cases e : i = q
      · rw [if_pos (by omega)] at this ⊢
        omega
      · rw [if_neg (by omega)] at this ⊢
        omega
    have hent : ∀ z, z ∈ (setE d.t k j 0).flatten → 0 ≤ z ∧ z ≤ (d.o.length : Int) := fun z hz => by
      rcases setE_mem hk hz with hz | rfl
      · exact hd.ent z hz
      · omega
    by_cases hr : (d.o.getD q Dn.zero).rf - 1 ≤ 0
    · rw [if_pos hr]
      have hq0 : nref (setE d.t k j 0) q = 0 := by have := hn2 q; rw [if_pos rfl] at this; omega
      have hgo : ∀ i, (d.o.set q Dn.zero).getD i Dn.zero = if i = q then Dn.zero else d.o.getD i Dn.zero := fun i => by
        by_cases e : i = q
        · rw [if_pos e, e, getD_set_self hq]
        · rw [if_neg e, getD_set_ne (fun h => e h.symm)]
      have hne : ∀ i, i ≠ q → nref (setE d.t k j 0) i = nref d.t i := fun i e => by have := hn2 i; rw [if_neg e] at this; omega
      refine rt_trim (by rw [setE_len]; exact hd.t1) (by rw [setE_len]; exact hd.t8) (by rw [List.length_set]; exact hd.o128) (fun p hp => by rw [setE_row]; exact hd.rows p (by rw [← setE_len d.t k j 0]; exact hp)) (by rw [List.length_set]; exact hent) (fun i hi => ?_) (fun i hi h0 => ?_) (fun i hi h0 => ?_)
      · rw [List.length_set] at hi
        rw [hgo]
        by_cases e : i = q
        · rw [if_pos e, e, hq0]; rfl
        · rw [if_neg e, hne i e]; exact hd.rf i hi
      · rw [List.length_set] at hi
        rw [hgo]
        by_cases e : i = q
        · rw [if_pos e]
        · rw [if_neg e]; rw [hne i e] at h0; exact hd.zero i hi h0
      · rw [List.length_set] at hi
        rw [hgo]
        by_cases e : i = q
        · rw [e, hq0] at h0; omega
        · rw [if_neg e]; rw [hne i e] at h0; exact hd.pos i hi h0
    · rw [if_neg hr]
      refine ⟨by show 1 ≤ (setE _ _ _ _).length; rw [setE_len]; exact hd.t1, by show (setE _ _ _ _).length ≤ 8; rw [setE_len]; exact hd.t8, by show (bumpL _ _ _).length ≤ 128; rw [bumpL_len]; exact hd.o128, fun p hp => by show ((setE _ _ _ _).getD p []).length = 16; rw [setE_row]; exact hd.rows p (by rw [← setE_len d.t k j 0]; exact hp), fun z hz => by show 0 ≤ z ∧ z ≤ ((bumpL _ _ _).length : Int); rw [bumpL_len]; exact hent z hz, fun i hi => ?_, fun i hi h0 => ?_, fun i hi h0 => ?_, fun n hn => ?_⟩
      · have hi' : i < d.o.length := by rw [← bumpL_len d.o q (-1)]; exact hi
        show ((bumpL _ _ _).getD i Dn.zero).rf = (nref (setE d.t k j 0) i : Int)
        rw [bumpL_get _ _ _ _ hq]
        have hn3 := hn2 i
        by_cases e : i = q
        · rw [if_pos e] at hn3 ⊢
          rw [e] at hn3 ⊢
          show (d.o.getD q Dn.zero).rf + -1 = _
          omega
        · rw [if_neg e] at hn3 ⊢
          have := hd.rf i hi'
          omega
      · have hi' : i < d.o.length := by rw [← bumpL_len d.o q (-1)]; exact hi
        show (bumpL _ _ _).getD i Dn.zero = _
        have h0' : nref (setE d.t k j 0) i = 0 := h0
        have hn3 := hn2 i
        rw [bumpL_get _ _ _ _ hq]
        by_cases e : i = q
        · rw [if_pos e] at hn3
          rw [e] at hn3 h0'
          omega
        · rw [if_neg e] at hn3 ⊢
          exact hd.zero i hi' (by omega)
      · have hi' : i < d.o.length := by rw [← bumpL_len d.o q (-1)]; exact hi
        show rightD ((bumpL _ _ _).getD i Dn.zero) = true
        have h0' : 0 < nref (setE d.t k j 0) i := h0
        have hn3 := hn2 i
        rw [bumpL_get _ _ _ _ hq]
        by_cases e : i = q
        · rw [if_pos e]
          have := hd.pos q hq hpos
          exact this
        · rw [if_neg e] at hn3 ⊢
          exact hd.pos i hi' (by omega)
      · have hn' : d.o.length = n + 1 := by rw [← bumpL_len d.o q (-1)]; exact hn
        show 0 < nref (setE d.t k j 0) n
        have h1 := hd.last n hn'
        have hn3 := hn2 n
        by_cases e : n = q
        · rw [if_pos e] at hn3
          rw [e] at hn3 ⊢
          omega
        · rw [if_neg e] at hn3
          omega
  · rw [if_neg h]
    exact hd
theorem upd_ok {d : De} {n f c : Int} (h : updE d n f c = 0) : ∃ q : Nat, n = (q : Int) ∧ q < d.o.length ∧ (d.o.getD q Dn.zero).rf ≠ 0 ∧ movB f c = true := by
  unfold updE at h
  cases h1 : checkV d
  · rw [if_pos h1] at h; cases h
  · rw [if_neg (by rw [h1]; simp)] at h
    by_cases h2 : n < 0 ∨ (d.o.length : Int) ≤ n ∨ (d.o.getD n.toNat Dn.zero).rf = 0
    · rw [if_pos h2] at h; cases h
    · rw [if_neg h2] at h
      cases h3 : movB f c
      · rw [if_pos h3] at h; cases h
      · exact ⟨n.toNat, by omega, by omega, fun e => h2 (Or.inr (Or.inr e)), rfl⟩
theorem rt_upd {d : De} {n f c : Int} (hd : Rt d) : Rt (updD d n f c) := by
  unfold updD
  by_cases h : updE d n f c = 0
  · rw [if_pos h]
    obtain ⟨q, rfl, hq, hr, hm⟩ := upd_ok h
    rw [Int.toNat_natCast]
    have hrq := hd.rf q hq
    have hg : ∀ i, (d.o.set q ⟨(d.o.getD q Dn.zero).fi, (d.o.getD q Dn.zero).fl, f, c, (d.o.getD q Dn.zero).rf⟩).getD i Dn.zero = if i = q then ⟨(d.o.getD q Dn.zero).fi, (d.o.getD q Dn.zero).fl, f, c, (d.o.getD q Dn.zero).rf⟩ else d.o.getD i Dn.zero := fun i => by
      by_cases e : i = q
      · rw [if_pos e, e, getD_set_self hq]
      · rw [if_neg e, getD_set_ne (fun h => e h.symm)]
    refine ⟨hd.t1, hd.t8, by show (List.set _ _ _).length ≤ 128; rw [List.length_set]; exact hd.o128, hd.rows, fun z hz => by show 0 ≤ z ∧ z ≤ ((List.set d.o _ _).length : Int); rw [List.length_set]; exact hd.ent z hz, fun i hi => ?_, fun i hi h0 => ?_, fun i hi h0 => ?_, fun n hn => ?_⟩
    · have hi' : i < d.o.length := by simpa using hi
      show ((List.set d.o _ _).getD i Dn.zero).rf = _
      rw [hg]
      by_cases e : i = q
      · rw [if_pos e, e]; exact hrq
      · rw [if_neg e]; exact hd.rf i hi'
    · have hi' : i < d.o.length := by simpa using hi
      have h0' : nref d.t i = 0 := h0
      show (List.set d.o _ _).getD i Dn.zero = _
      rw [hg]
      by_cases e : i = q
      · rw [e] at h0'; omega
      · rw [if_neg e]; exact hd.zero i hi' h0'
    · have hi' : i < d.o.length := by simpa using hi
      have h0' : 0 < nref d.t i := h0
      show rightD ((List.set d.o _ _).getD i Dn.zero) = true
      rw [hg]
      by_cases e : i = q
      · rw [if_pos e]
        rw [e] at h0'
        have := hd.pos q hq h0'
        unfold rightD at this ⊢
        rw [Bool.and_eq_true] at this
        rw [this.1, hm]; rfl
      · rw [if_neg e]; exact hd.pos i hi' h0'
    · exact hd.last n (by simpa using hn)
  · rw [if_neg h]
    exact hd
end Go.Proofs.YtimhaidiclbnhaaGreat.Des
