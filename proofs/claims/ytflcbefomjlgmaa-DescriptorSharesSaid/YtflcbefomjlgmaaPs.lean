/- What descriptors say of the Opens that they came from. -/
import Derived.Test.YtflcbefomjlgmaaPa
import Derived.Test.YtflcbefomjlgmaaPu
set_option linter.unusedSimpArgs false
set_option linter.unusedVariables false
namespace Go.Proofs.Ytflcbefomjlgmaa
open Go.ChangeShapes Go.WideShapes Go.ChangeAt Go.RowKit

/-- which Open each descriptor came from (who), and the offset of each Open (off) -/
structure Sh (d : De) (who : List (List Int)) (off : List Int) (m : Int → Int) : Prop where
  rt : Rt d
  len : d.t.length = 3
  m0 : m 0 = 0
  wm : who = d.t.map (List.map m)
  bd : ∀ q : Nat, ((q : Int) + 1) ∈ d.t.flatten → 1 ≤ m ((q : Int) + 1) ∧ m ((q : Int) + 1) ≤ (off.length : Int) ∧ (d.o.getD q Dn.zero).f = off.getD (m ((q : Int) + 1) - 1).toNat 0
  inj : ∀ q k : Nat, ((q : Int) + 1) ∈ d.t.flatten → ((k : Int) + 1) ∈ d.t.flatten → m ((q : Int) + 1) = m ((k : Int) + 1) → q = k
theorem getD_mapE (t : List (List Int)) (m : Int → Int) (p : Nat) : (t.map (List.map m)).getD p [] = (t.getD p []).map m := by
  simp only [List.getD, List.getElem?_map]
  cases t[p]? <;> rfl
theorem getD_mapI (l : List Int) (m : Int → Int) (k : Nat) (h0 : m 0 = 0) : (l.map m).getD k 0 = m (l.getD k 0) := by
  simp only [List.getD, List.getElem?_map]
  cases l[k]?
  · exact h0.symm
  · rfl
theorem setE_map (t : List (List Int)) (m : Int → Int) (p f : Nat) (z : Int) : (setE t p f z).map (List.map m) = setE (t.map (List.map m)) p f (m z) := by
  unfold setE
  rw [getD_mapE, List.map_set, List.map_set]
theorem Sh.at' {d : De} {who : List (List Int)} {off : List Int} {m : Int → Int} (h : Sh d who off m) (p k : Nat) : (who.getD p []).getD k 0 = m ((d.t.getD p []).getD k 0) := by
  rw [h.wm, getD_mapE, getD_mapI _ _ _ h.m0]
theorem Sh.zero {d : De} {who : List (List Int)} {off : List Int} {m : Int → Int} (h : Sh d who off m) (p k : Nat) (hp : p < 3) (hk : k < 16) : (who.getD p []).getD k 0 = 0 ↔ (d.t.getD p []).getD k 0 = 0 := by
  rw [h.at']
  have h16 := h.rt.rows p (by rw [h.len]; exact hp)
  have hm := ent_mem (t := d.t) (p := p) (f := k) (by rw [h.len]; exact hp) (by omega)
  have he := h.rt.ent _ hm
  refine ⟨fun h1 => ?_, fun h1 => by rw [h1]; exact h.m0⟩
  rcases Int.lt_or_eq_of_le he.1 with h2 | h2
  · exfalso
    generalize (d.t.getD p []).getD k 0 = z at *
    obtain ⟨q, rfl⟩ : ∃ q : Nat, z = (q : Int) + 1 := ⟨(z - 1).toNat, by omega⟩
    have := (h.bd q hm).1
    omega
  · exact h2.symm
/-- what is looked up -/
theorem Sh.look {d : De} {who : List (List Int)} {off : List Int} {m : Int → Int} (h : Sh d who off m) (p k : Nat) (hp : p < 3) (hk : k < 16) :
    (numE d p k = 0 ↔ (who.getD p []).getD k 0 ≠ 0) ∧ (numE d p k = 0 → (1 ≤ (who.getD p []).getD k 0 ∧ (who.getD p []).getD k 0 ≤ (off.length : Int)) ∧ (lookV d p k).f = off.getD ((who.getD p []).getD k 0 - 1).toNat 0) := by
  have hz := h.zero p k hp hk
  have hpv : procV d (p : Int) = 0 := procV_of (rt_check h.rt) (by omega) (by rw [h.len]; omega)
  have he : entAt d (p : Int) (k : Int) = (d.t.getD p []).getD k 0 := by unfold entAt tabAt; rw [Int.toNat_natCast, Int.toNat_natCast]
  have hn : numE d (p : Int) (k : Int) = 0 ↔ (who.getD p []).getD k 0 ≠ 0 := by
    unfold numE
    rw [hpv, if_neg (by simp), he]
    constructor
    · intro h1 h2
      rw [if_pos (Or.inr (Or.inr (hz.1 h2)))] at h1
      cases h1
    · intro h1
      rw [if_neg]
      rintro (h2 | h2 | h2)
      · omega
      · omega
      · exact h1 (hz.2 h2)
  refine ⟨hn, fun h0 => ?_⟩
  obtain ⟨k', j, q, e1, e2, hk1, hj, hq, hv, hent, hpos⟩ := num_ref h0
  have e1' : k' = p := by omega
  have e2' : j = k := by omega
  subst e1' e2'
  have hb := h.bd q (nref_mem.1 hpos)
  have hw := h.at' k' j
  rw [hent] at hw
  rw [hw]
  refine ⟨⟨hb.1, hb.2.1⟩, ?_⟩
  unfold lookV
  rw [if_pos h0, hv, Int.toNat_natCast]
  exact hb.2.2
theorem map_off {t : List (List Int)} {m m' : Int → Int} (h : ∀ z, z ∈ t.flatten → m' z = m z) : t.map (List.map m') = t.map (List.map m) := by
  refine List.map_congr_left fun l hl => List.map_congr_left fun z hz => h z (List.mem_flatten.2 ⟨l, hl, hz⟩)
/-- a descriptor is opened -/
theorem sh_open {d : De} {who : List (List Int)} {off : List Int} {m : Int → Int} (h : Sh d who off m) {p f : Nat} {fi fl c : Int} (ho : openE d (p : Int) fi fl c = 0) (hf : openF d (p : Int) fi fl c = (f : Int)) :
    ∃ m', Sh (openD d (p : Int) fi fl c) (setE who p f ((off.length : Int) + 1)) (off ++ [0]) m' := by
  obtain ⟨_, _, c3, _, _, f', hf16, hff, hf0, _⟩ := open_ok ho
  have hff' : f' = f := by
    unfold openF at hf
    rw [if_pos ho, hff] at hf
    omega
  subst hff'
  have hr := rt_open (p := (p : Int)) (fi := fi) (fl := fl) (c := c) h.rt
  have hk : p < d.t.length := by omega
  have h16 := h.rt.rows p hk
  have e : openD d (p : Int) fi fl c = ⟨putD d.o ⟨fi, fl, 0, c, 1⟩, setE d.t p f' ((slotN d.o : Int) + 1)⟩ := by
    unfold openD; rw [if_pos ho, hff, Int.toNat_natCast, Int.toNat_natCast]
  rw [e] at hr ⊢
  have hfree : nref d.t (slotN d.o) = 0 := by
    rcases slot_cases d.o with ⟨_, s2, _⟩ | ⟨s1, _, s3⟩
    · exact nref_big h.rt _ (by omega)
    · have h3 := h.rt.rf _ s1
      rw [s3] at h3
      have h4 : (0 : Int) = (nref d.t (slotN d.o) : Int) := h3
      omega
  have hnm : ∀ q : Nat, ((q : Int) + 1) ∈ d.t.flatten → q ≠ slotN d.o := fun q hq e1 => by
    have := nref_mem.2 hq
    rw [e1] at this
    omega
  refine ⟨fun z => if z = (slotN d.o : Int) + 1 then (off.length : Int) + 1 else m z, hr, by show (setE _ _ _ _).length = 3; rw [setE_len]; exact h.len, by rw [if_neg (by omega)]; exact h.m0, ?_, fun q hq => ?_, fun q k hq hk2 hmm => ?_⟩
  · show _ = (setE d.t p f' _).map _
    rw [setE_map, if_pos rfl, h.wm]
    congr 1
    refine (map_off fun z hz => if_neg fun e1 => ?_).symm
    subst e1
    exact hnm _ hz rfl
  · show 1 ≤ (if (q : Int) + 1 = (slotN d.o : Int) + 1 then (off.length : Int) + 1 else m ((q : Int) + 1)) ∧ (if (q : Int) + 1 = (slotN d.o : Int) + 1 then (off.length : Int) + 1 else m ((q : Int) + 1)) ≤ ((off ++ [0]).length : Int) ∧ ((putD d.o ⟨fi, fl, 0, c, 1⟩).getD q Dn.zero).f = (off ++ [0]).getD ((if (q : Int) + 1 = (slotN d.o : Int) + 1 then (off.length : Int) + 1 else m ((q : Int) + 1)) - 1).toNat 0
    rw [putD_get]
    by_cases e1 : q = slotN d.o
    · subst e1
      rw [if_pos rfl, if_pos rfl, List.length_append]
      refine ⟨by omega, by simp, ?_⟩
      show (0 : Int) = _
      rw [show ((off.length : Int) + 1 - 1).toNat = off.length by omega]
      simp [List.getD]
    · have hq2 : ((q : Int) + 1) ∈ d.t.flatten := by
        rcases setE_mem hk hq with h1 | h1
        · exact h1
        · exact absurd (by omega) e1
      have hb := h.bd q hq2
      rw [if_neg (by omega), if_neg e1, List.length_append]
      refine ⟨hb.1, by simp; omega, ?_⟩
      rw [hb.2.2]
      simp only [List.getD]
      rw [List.getElem?_append_left (by omega)]
  · have hmm' : (if (q : Int) + 1 = (slotN d.o : Int) + 1 then (off.length : Int) + 1 else m ((q : Int) + 1)) = (if (k : Int) + 1 = (slotN d.o : Int) + 1 then (off.length : Int) + 1 else m ((k : Int) + 1)) := hmm
    have hin : ∀ i : Nat, ((i : Int) + 1) ∈ (setE d.t p f' ((slotN d.o : Int) + 1)).flatten → i ≠ slotN d.o → ((i : Int) + 1) ∈ d.t.flatten := fun i hi hne => by
      rcases setE_mem hk hi with h1 | h1
      · exact h1
      · exact absurd (by omega) hne
    by_cases e1 : q = slotN d.o
    · by_cases e2 : k = slotN d.o
      · rw [e1, e2]
      · rw [if_pos (by omega), if_neg (by omega)] at hmm'
        have := (h.bd k (hin k hk2 e2)).2.1
        omega
    · by_cases e2 : k = slotN d.o
      · rw [if_neg (by omega), if_pos (by omega)] at hmm'
        have := (h.bd q (hin q hq e1)).2.1
        omega
      · rw [if_neg (by omega), if_neg (by omega)] at hmm'
        exact h.inj q k (hin q hq e1) (hin k hk2 e2) hmm'
/-- no new description is referred to, and those that are keep their offsets -/
theorem Sh.keep {d d' : De} {who who' : List (List Int)} {off : List Int} {m : Int → Int} (h : Sh d who off m) (hr : Rt d') (hl : d'.t.length = d.t.length) (hw : who' = d'.t.map (List.map m)) (hin : ∀ q : Nat, ((q : Int) + 1) ∈ d'.t.flatten → ((q : Int) + 1) ∈ d.t.flatten)
    (hf : ∀ q : Nat, ((q : Int) + 1) ∈ d'.t.flatten → (d'.o.getD q Dn.zero).f = (d.o.getD q Dn.zero).f) : Sh d' who' off m :=
  ⟨hr, hl.trans h.len, h.m0, hw, fun q hq => by have := h.bd q (hin q hq); rw [hf q hq]; exact this, fun q k hq hk hm => h.inj q k (hin q hq) (hin k hk) hm⟩
theorem sh_dup {d : De} {who : List (List Int)} {off : List Int} {m : Int → Int} (h : Sh d who off m) {p f j : Nat} (ho : dupE d (p : Int) (f : Int) = 0) (hf : dupF d (p : Int) (f : Int) = (j : Int)) :
    Sh (dupD d (p : Int) (f : Int)) (setE who p j ((who.getD p []).getD f 0)) off m := by
  obtain ⟨h1, j', hj16, hjf, hj0, _⟩ := dup_ok ho
  have hjj : j' = j := by
    unfold dupF at hf
    rw [if_pos ho, hjf] at hf
    omega
  subst hjj
  obtain ⟨k, f', q, e1, e2, hk, hf16, hq, hv, hent, hpos⟩ := num_ref h1
  have e1' : k = p := by omega
  have e2' : f' = f := by omega
  subst e1' e2'
  have h16 := h.rt.rows k hk
  have hr := rt_dup (p := (k : Int)) (f := (f' : Int)) h.rt
  have e : dupD d (k : Int) (f' : Int) = ⟨bumpL d.o q 1, setE d.t k j' ((q : Int) + 1)⟩ := by
    unfold dupD; rw [if_pos ho, hv, hjf, Int.toNat_natCast, Int.toNat_natCast, Int.toNat_natCast]
  rw [e] at hr ⊢
  refine h.keep hr (setE_len _ _ _ _) ?_ (fun i hi => ?_) (fun i hi => ?_)
  · show _ = (setE d.t k j' _).map _
    rw [setE_map, h.at', hent, h.wm]
  · rcases setE_mem hk hi with h2 | h2
    · exact h2
    · rw [h2]; exact nref_mem.1 hpos
  · show ((bumpL d.o q 1).getD i Dn.zero).f = _
    rw [bumpL_get _ _ _ _ hq]
    by_cases e3 : i = q
    · rw [if_pos e3, e3]; rfl
    · rw [if_neg e3]
theorem sh_fork {d : De} {who : List (List Int)} {off : List Int} {m : Int → Int} (h : Sh d who off m) {p q : Nat} (ho : forkE d (p : Int) (q : Int) = 0) : Sh (forkD d (p : Int) (q : Int)) (who.set q (who.getD p [])) off m := by
  obtain ⟨_, a, b, e1, e2, ha, hb, hab, hz⟩ := fork_ok ho
  have e1' : a = p := by omega
  have e2' : b = q := by omega
  subst e1' e2'
  have et : tabAt d (a : Int) = d.t.getD a [] := by unfold tabAt; rw [Int.toNat_natCast]
  have hr := rt_fork (p := (a : Int)) (q := (b : Int)) h.rt
  have e : forkD d (a : Int) (b : Int) = ⟨bumps d.o (d.t.getD a []), d.t.set b (d.t.getD a [])⟩ := by
    unfold forkD; rw [if_pos ho, et, Int.toNat_natCast]
  rw [e] at hr ⊢
  have hmem : ∀ z, z ∈ d.t.getD a [] → z ∈ d.t.flatten := fun z hz' => List.mem_flatten.2 ⟨d.t.getD a [], by rw [getD_get ha]; exact List.getElem_mem ha, hz'⟩
  have hin : ∀ z, z ∈ (d.t.set b (d.t.getD a [])).flatten → z ∈ d.t.flatten := fun z hz' => by
    obtain ⟨l, hl, hzl⟩ := List.mem_flatten.1 hz'
    rcases mem_set hl with hl | rfl
    · exact List.mem_flatten.2 ⟨l, hl, hzl⟩
    · exact hmem z hzl
  refine h.keep hr (List.length_set ..) ?_ (fun i hi => hin _ hi) (fun i hi => ?_)
  · show _ = (d.t.set b _).map _
    rw [List.map_set, h.wm, getD_mapE]
  · have hi2 := h.rt.ent _ (hin _ hi)
    show ((bumps d.o (d.t.getD a [])).getD i Dn.zero).f = _
    rw [bumps_get _ _ _ (by omega) (fun z hz' => h.rt.ent z (hmem z hz'))]
    rfl
theorem sh_close {d : De} {who : List (List Int)} {off : List Int} {m : Int → Int} (h : Sh d who off m) {p f : Nat} (ho : numE d (p : Int) (f : Int) = 0) :
    Sh (closeD d (p : Int) (f : Int)) (setE who p f 0) off m ∧ (closeG d (p : Int) (f : Int) = true ↔ ∀ a b : Nat, a < 3 → b < 16 → ((setE who p f 0).getD a []).getD b 0 ≠ (who.getD p []).getD f 0) := by
  obtain ⟨k, j, q, e1, e2, hk, hj, hq, hv, hent, hpos⟩ := num_ref ho
  have e1' : k = p := by omega
  have e2' : j = f := by omega
  subst e1' e2'
  have h16 := h.rt.rows k hk
  have hr := rt_close (p := (k : Int)) (f := (j : Int)) h.rt
  have hrq := h.rt.rf q hq
  have e : closeD d (k : Int) (j : Int) = ⟨if (d.o.getD q Dn.zero).rf - 1 ≤ 0 then trim (d.o.set q Dn.zero) else bumpL d.o q (-1), setE d.t k j 0⟩ := by
    unfold closeD; rw [if_pos ho, hv, Int.toNat_natCast, Int.toNat_natCast, Int.toNat_natCast]
  rw [e] at hr ⊢
  have hn2 : ∀ i, nref (setE d.t k j 0) i + (if i = q then 1 else 0) = nref d.t i := fun i => by
    have := nref_set d.t k j 0 hk (by omega) i
    rw [hent, if_neg (by omega : ¬ ((0 : Int) = (i : Int) + 1))] at this
    by_cases e : i = q
    · rw [if_pos (by omega)] at this ⊢
      omega
    · rw [if_neg (by omega)] at this ⊢
      omega
  have hin : ∀ i : Nat, ((i : Int) + 1) ∈ (setE d.t k j 0).flatten → ((i : Int) + 1) ∈ d.t.flatten := fun i hi => by
    rcases setE_mem hk hi with h2 | h2
    · exact h2
    · omega
  have hS : Sh ⟨if (d.o.getD q Dn.zero).rf - 1 ≤ 0 then trim (d.o.set q Dn.zero) else bumpL d.o q (-1), setE d.t k j 0⟩ (setE who k j 0) off m := by
    refine h.keep hr (setE_len _ _ _ _) ?_ hin (fun i hi => ?_)
    · show _ = (setE d.t k j 0).map _
      rw [setE_map, h.wm, h.m0]
    · have hi' : ((i : Int) + 1) ∈ (setE d.t k j 0).flatten := hi
      have hil := h.rt.ent _ (hin i hi')
      have hil' : i < d.o.length := by omega
      have hrf := h.rt.rf i hil'
      have hi1 := nref_mem.2 hi'
      have hi2 := hn2 i
      have hi3 := hn2 q
      rw [if_pos rfl] at hi3
      show ((if (d.o.getD q Dn.zero).rf - 1 ≤ 0 then trim (d.o.set q Dn.zero) else bumpL d.o q (-1)).getD i Dn.zero).f = _
      by_cases hg : (d.o.getD q Dn.zero).rf - 1 ≤ 0
      · rw [if_pos hg]
        have hne : i ≠ q := fun e1 => by
          rw [e1] at hi1
          omega
        obtain ⟨mm, m1, m2, m3, _⟩ := trim_spec (d.o.set q Dn.zero)
        rw [List.length_set] at m1 m3
        have hgq : (d.o.set q Dn.zero).getD i Dn.zero = d.o.getD i Dn.zero := getD_set_ne (fun a => hne a.symm)
        have hqm : i < mm := by
          rcases Nat.lt_or_ge i mm with a | a
          · exact a
          · have := m3 i a hil'
            rw [hgq] at this
            omega
        rw [m2, getD_get (by rw [List.length_take, List.length_set]; omega), List.getElem_take, ← getD_get (d := Dn.zero) (by rw [List.length_set]; exact hil'), hgq]
      · rw [if_neg hg, bumpL_get _ _ _ _ hq]
        by_cases e1 : i = q
        · rw [if_pos e1, e1]; rfl
        · rw [if_neg e1]
  refine ⟨hS, ?_⟩
  have hw := h.at' k j
  rw [hent] at hw
  have hgd : closeG d (k : Int) (j : Int) = true ↔ nref (setE d.t k j 0) q = 0 := by
    have hi3 := hn2 q
    rw [if_pos rfl] at hi3
    unfold closeG
    rw [ho, hv, Int.toNat_natCast, decide_eq_true (rfl : (0 : Int) = 0), Bool.true_and, decide_eq_true_iff]
    omega
  rw [hgd, hw]
  constructor
  · intro h0 a b ha hb h2
    rw [hS.at' a b] at h2
    have hra := hS.rt.rows a (by rw [hS.len]; exact ha)
    have hmem := ent_mem (t := setE d.t k j 0) (p := a) (f := b) (by rw [setE_len, h.len]; exact ha) (by have : ((setE d.t k j 0).getD a []).length = 16 := hra; omega)
    have hent2 := hS.rt.ent _ hmem
    have h2' : m (((setE d.t k j 0).getD a []).getD b 0) = m ((q : Int) + 1) := h2
    have hq1 := (h.bd q (nref_mem.1 hpos)).1
    generalize ((setE d.t k j 0).getD a []).getD b 0 = z at *
    rcases Int.lt_or_eq_of_le hent2.1 with h3 | h3
    · obtain ⟨i, rfl⟩ : ∃ i : Nat, z = (i : Int) + 1 := ⟨(z - 1).toNat, by omega⟩
      have h4 := h.inj i q (hin i hmem) (nref_mem.1 hpos) h2'
      subst h4
      have := nref_mem.2 hmem
      omega
    · rw [← h3, h.m0] at h2'
      omega
  · intro hall
    rcases Nat.eq_zero_or_pos (nref (setE d.t k j 0) q) with h0 | h0
    · exact h0
    · exfalso
      obtain ⟨l, hl, hz⟩ := List.mem_flatten.1 (nref_mem.1 h0)
      obtain ⟨a, ha, rfl⟩ := List.getElem_of_mem hl
      obtain ⟨b, hb, hzb⟩ := List.getElem_of_mem hz
      have hra := hS.rt.rows a ha
      have ha3 : a < 3 := by have := setE_len d.t k j 0; have := h.len; omega
      have hra' : ((setE d.t k j 0)[a]).length = 16 := by rw [← getD_get (d := []) ha]; exact hra
      refine hall a b ha3 (by omega) ?_
      rw [hS.at' a b]
      show m (((setE d.t k j 0).getD a []).getD b 0) = _
      rw [getD_get ha, getD_get hb, hzb]
theorem sh_upd {d : De} {who : List (List Int)} {off : List Int} {m : Int → Int} (h : Sh d who off m) {p k : Nat} {v c : Int} (hn : numE d (p : Int) (k : Int) = 0) (hu : updE d (numV d (p : Int) (k : Int)) v c = 0) :
    Sh (updD d (numV d (p : Int) (k : Int)) v c) who (off.set ((who.getD p []).getD k 0 - 1).toNat v) m := by
  obtain ⟨k', j, q, e1, e2, hk, hj, hq, hv, hent, hpos⟩ := num_ref hn
  have e1' : k' = p := by omega
  have e2' : j = k := by omega
  subst e1' e2'
  have hr := rt_upd (n := numV d (k' : Int) (j : Int)) (f := v) (c := c) h.rt
  have hw := h.at' k' j
  rw [hent] at hw
  rw [hw]
  rw [hv] at hr hu ⊢
  have e : updD d (q : Int) v c = ⟨d.o.set q ⟨(d.o.getD q Dn.zero).fi, (d.o.getD q Dn.zero).fl, v, c, (d.o.getD q Dn.zero).rf⟩, d.t⟩ := by
    unfold updD; rw [if_pos hu, Int.toNat_natCast]
  rw [e] at hr ⊢
  have hbq := h.bd q (nref_mem.1 hpos)
  refine ⟨hr, h.len, h.m0, h.wm, fun i hi => ?_, h.inj⟩
  have hbi := h.bd i hi
  rw [List.length_set]
  refine ⟨hbi.1, hbi.2.1, ?_⟩
  show ((d.o.set q _).getD i Dn.zero).f = _
  by_cases e3 : i = q
  · subst e3
    rw [getD_set_self hq, getD_set_self (by omega)]
  · rw [getD_set_ne (fun a => e3 a.symm), getD_set_ne]
    · exact hbi.2.2
    · intro h4
      exact e3 (h.inj i q hi (nref_mem.1 hpos) (by omega))
end Go.Proofs.Ytflcbefomjlgmaa
