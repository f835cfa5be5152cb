/- Layer 35: what the parts come to, in any order; no program in sight. -/
import Derived.Test.YtppkbifhhpakgaaParts
import Derived.Test.YtppkbifhhpakgaaPartDefs
namespace Go.Proofs.Ytppkbifhhpakgaa
open Go.ChangeShapes Go.WideShapes Go.ChangeAt Go.RowKit

def bl (a : ByteArray) : List UInt8 := a.data.toList
theorem bl_inj {a b : ByteArray} (h : bl a = bl b) : a = b := by
  apply ByteArray.ext; exact Array.toList_inj.1 h
theorem bl_len (a : ByteArray) : (bl a).length = a.size := by unfold bl; rw [Array.length_toList]; rfl
theorem bl_app (a b : ByteArray) : bl (a ++ b) = bl a ++ bl b := by unfold bl; rw [ByteArray.data_append, Array.toList_append]
theorem bl_zeros (n : Nat) : bl (zeros n) = List.replicate n 0 := by simp [bl, zeros]
theorem bl_nil : bl ⟨#[]⟩ = [] := rfl
theorem bl_ext (a : ByteArray) (i j : Nat) : bl (a.extract i j) = ((bl a).drop i).take (j - i) := by
  simp [bl, ByteArray.data_extract, Array.toList_extract, List.extract_eq_take_drop]
theorem bl_put (P : ByteArray) (off cnt : Int) (d : ByteArray) : bl (putS P off cnt d) = (bl P).take (off * 8).toNat ++ bl d ++ (bl P).drop ((off + cnt) * 8).toNat := by
  unfold putS
  rw [bl_app, bl_app, bl_ext, bl_ext]
  simp only [List.drop_zero, Nat.sub_zero]
  congr 1
  rw [List.take_of_length_le]
  rw [List.length_drop, bl_len]; omega

/-- the bytes where the parts of S have been put in, from part i on -/
def seg (S : Nat → Bool) : Nat → List Prt → List UInt8
  | _, [] => []
  | i, p :: r => (if S i = true ∧ p.err = 0 then bl p.dat else List.replicate (p.cnt * 8).toNat 0) ++ seg S (i + 1) r
def upd (S : Nat → Bool) (k : Nat) (j : Nat) : Bool := decide (j = k) || S j
theorem head_len {S : Nat → Bool} {i : Nat} {p : Prt} (hg : Good p) : (if S i = true ∧ p.err = 0 then bl p.dat else List.replicate (p.cnt * 8).toNat 0).length = (p.cnt * 8).toNat := by
  split
  · rename_i h
    rw [bl_len]
    rcases hg.2.2.2 with h1 | h1
    · omega
    · omega
  · simp
theorem seg_len {S : Nat → Bool} {e : Int} : ∀ {xs : List Prt} {i : Nat} {s : Int}, Chain s xs e → (seg S i xs).length = ((e - s) * 8).toNat ∧ s ≤ e
  | [], i, s, h => by
    have h : s = e := h
    subst h; simp [seg]
  | p :: r, i, s, h => by
    obtain ⟨h1, h2, h3⟩ := h
    have ih := seg_len (S := S) (i := i + 1) h3
    have := h2.2.1
    refine ⟨?_, by omega⟩
    unfold seg
    rw [List.length_append, head_len h2, ih.1]
    omega
theorem seg_congr {S S' : Nat → Bool} : ∀ {xs : List Prt} {i : Nat}, (∀ j, i ≤ j → j < i + xs.length → S j = S' j) → seg S i xs = seg S' i xs
  | [], i, h => rfl
  | p :: r, i, h => by
    unfold seg
    rw [h i (Nat.le_refl _) (by simp), seg_congr (xs := r) (i := i + 1) (fun j h1 h2 => h j (by omega) (by simp at *; omega))]
theorem seg_none {S : Nat → Bool} {e : Int} : ∀ {xs : List Prt} {i : Nat} {s : Int}, Chain s xs e → (∀ j, S j = false) → seg S i xs = List.replicate ((e - s) * 8).toNat 0
  | [], i, s, h, _ => by
    have h : s = e := h
    subst h; simp [seg]
  | p :: r, i, s, h, hS => by
    obtain ⟨h1, h2, h3⟩ := h
    have ih := seg_none (S := S) (i := i + 1) h3 hS
    have hl := seg_len (S := S) (i := i + 1) h3
    have := h2.2.1
    unfold seg
    rw [if_neg (by rw [hS i]; simp), ih, List.replicate_append_replicate]
    congr 1
    omega
theorem seg_skip {S : Nat → Bool} {k : Nat} : ∀ {xs : List Prt} {i : Nat}, (∀ p, xs[k - i]? = some p → i ≤ k → p.err ≠ 0) → seg (upd S k) i xs = seg S i xs
  | [], i, h => rfl
  | p :: r, i, h => by
    unfold seg
    have ih := seg_skip (S := S) (k := k) (xs := r) (i := i + 1) (fun q hq hi => h q (by rw [show k - i = (k - (i + 1)) + 1 from by omega]; simpa using hq) (by omega))
    rw [ih]
    congr 1
    by_cases hk : i = k
    · subst hk
      have := h p (by simp) (Nat.le_refl _)
      rw [if_neg (by simp [this]), if_neg (by simp [this])]
    · have : upd S k i = S i := by unfold upd; simp [hk]
      rw [this]
theorem chain_at {e : Int} {p : Prt} : ∀ {xs : List Prt} {k : Nat} {s : Int}, Chain s xs e → xs[k]? = some p → s ≤ p.off ∧ p.off + p.cnt ≤ e ∧ Good p
  | [], k, s, h, hp => by simp at hp
  | q :: r, 0, s, h, hp => by
    obtain ⟨h1, h2, h3⟩ := h
    simp at hp; subst hp
    have hl := seg_len (S := fun _ => false) (i := 0) h3
    exact ⟨by omega, by omega, h2⟩
  | q :: r, k + 1, s, h, hp => by
    obtain ⟨h1, h2, h3⟩ := h
    have ih := chain_at h3 (by simpa using hp)
    have := h2.2.1
    exact ⟨by omega, ih.2.1, ih.2.2⟩
theorem chain_lt {e : Int} {p q : Prt} : ∀ {xs : List Prt} {j k : Nat} {s : Int}, Chain s xs e → xs[j]? = some p → xs[k]? = some q → j < k → p.off < q.off
  | [], j, k, s, h, hp, _, _ => by simp at hp
  | x :: r, 0, k, s, h, hp, hq, hk => by
    obtain ⟨h1, h2, h3⟩ := h
    simp at hp; subst hp
    obtain ⟨k, rfl⟩ : ∃ m, k = m + 1 := ⟨k - 1, by omega⟩
    have := chain_at h3 (by simpa using hq)
    have := h2.2.1
    omega
  | x :: r, j + 1, k, s, h, hp, hq, hk => by
    obtain ⟨k, rfl⟩ : ∃ m, k = m + 1 := ⟨k - 1, by omega⟩
    exact chain_lt h.2.2 (by simpa using hp) (by simpa using hq) (by omega)
theorem seg_put {S : Nat → Bool} {e : Int} {p : Prt} (he : p.err = 0) : ∀ {xs : List Prt} {i k : Nat} {s : Int}, Chain s xs e → xs[k]? = some p →
    (seg S i xs).take ((p.off - s) * 8).toNat ++ bl p.dat ++ (seg S i xs).drop ((p.off + p.cnt - s) * 8).toNat = seg (upd S (i + k)) i xs
  | [], i, k, s, h, hp => by simp at hp
  | q :: r, i, 0, s, h, hp => by
    obtain ⟨h1, h2, h3⟩ := h
    simp at hp; subst hp
    unfold seg
    rw [show ((q.off - s) * 8).toNat = 0 from by omega, List.take_zero, List.nil_append, List.drop_append_of_le_length (by rw [head_len h2]; omega), List.drop_of_length_le (by rw [head_len h2]; omega), List.nil_append]
    rw [if_pos (show upd S (i + 0) i = true ∧ q.err = 0 from ⟨by simp [upd], he⟩)]
    congr 1
    exact seg_congr (fun j h1 h2 => by unfold upd; simp; omega)
  | q :: r, i, k + 1, s, h, hp => by
    obtain ⟨h1, h2, h3⟩ := h
    have ih := seg_put (S := S) (p := p) he (i := i + 1) (k := k) h3 (by simpa using hp)
    have ha := chain_at h3 (show r[k]? = some p by simpa using hp)
    have := h2.2.1
    have := ha.2.2.2.1
    unfold seg
    have hh : upd S (i + (k + 1)) i = S i := by unfold upd; simp
    rw [hh]
    have hl := head_len (S := S) (i := i) h2
    generalize (if S i = true ∧ q.err = 0 then bl q.dat else List.replicate (q.cnt * 8).toNat 0) = X at hl ⊢
    rw [show i + (k + 1) = i + 1 + k from by omega, ← ih]
    rw [List.take_append, List.drop_append, hl, List.take_of_length_le (by omega), List.drop_of_length_le (by omega), List.nil_append]
    rw [show ((p.off - s) * 8).toNat - (q.cnt * 8).toNat = ((p.off - (s + q.cnt)) * 8).toNat from by omega, show ((p.off + p.cnt - s) * 8).toNat - (q.cnt * 8).toNat = ((p.off + p.cnt - (s + q.cnt)) * 8).toNat from by omega]
    simp only [List.append_assoc]

/-- the error is that of the first of the parts of S that failed -/
structure ErrIs (xs : List Prt) (S : Nat → Bool) (er ea : Int) : Prop where
  none : er = 0 → ∀ j p, xs[j]? = some p → S j = true → p.err = 0
  some : er ≠ 0 → ∃ j p, xs[j]? = some p ∧ S j = true ∧ p.err = er ∧ p.off = ea ∧ ∀ i q, xs[i]? = some q → S i = true → q.err ≠ 0 → p.off ≤ q.off
structure PS (c : Int) (xs : List Prt) (S : Nat → Bool) (er ea : Int) (P : ByteArray) : Prop where
  chain : Chain 0 xs c
  seg : bl P = seg S 0 xs
  err : ErrIs xs S er ea
theorem PS.size {c : Int} {xs : List Prt} {S : Nat → Bool} {er ea : Int} {P : ByteArray} (h : PS c xs S er ea P) : (P.size : Int) = c * 8 := by
  have h1 := seg_len (S := S) (i := 0) h.chain
  have h2 := bl_len P
  rw [h.seg] at h2
  omega
theorem PS.start {c : Int} {xs : List Prt} (h : Chain 0 xs c) : PS c xs (fun _ => false) 0 0 (zeros (c * 8).toNat) := by
  refine ⟨h, ?_, ⟨fun _ j p _ hS => by simp at hS, fun h => absurd rfl h⟩⟩
  rw [bl_zeros, seg_none h (fun _ => rfl)]; simp
theorem PS.step {c : Int} {xs : List Prt} {S : Nat → Bool} {lf er ea : Int} {P : ByteArray} (h : PS c xs S er ea P) (hc : c ≤ 8) (l0 : -100 ≤ lf) (l1 : lf ≤ 100) {k : Nat} {p : Prt} (hp : xs[k]? = .some p) :
    ∃ er' ea' P', partS 1 c lf er ea P p.off p.cnt p.err p.dat = (lf - 1, er', ea', P') ∧ PS c xs (upd S k) er' ea' P' := by
  have ha := chain_at h.chain hp
  have hw : wrap64 (lf - 1) = lf - 1 := by unfold wrap64; omega
  have hg := ha.2.2
  have h1 := hg.1
  have h2 := hg.2.1
  have hf : fitB c = true := by unfold fitB; simp; omega
  unfold partS
  rw [if_neg (by simp [hf]), hw]
  by_cases he : p.err = 0
  · have hd : (p.dat.size : Int) = p.cnt * 8 := by
      rcases hg.2.2.2 with h3 | h3 <;> omega
    have hs := h.size
    have hfit : fitsB 1 c p.off p.cnt P p.dat = true := by
      unfold fitsB; simp; omega
    rw [if_neg (by simp [he]), if_pos hfit]
    refine ⟨er, ea, _, rfl, h.chain, ?_, ?_⟩
    · rw [bl_put, h.seg]
      have := seg_put (S := S) he (i := 0) (k := k) h.chain hp
      simpa using this
    · refine ⟨fun e0 j q hq hS => ?_, fun e0 => ?_⟩
      · unfold upd at hS; simp at hS
        rcases hS with rfl | hS
        · rw [hp] at hq; cases hq; exact he
        · exact h.err.none e0 j q hq hS
      · obtain ⟨j, q, a1, a2, a3, a4, a5⟩ := h.err.some e0
        refine ⟨j, q, a1, by unfold upd; simp [a2], a3, a4, fun i y hy hS hne => ?_⟩
        unfold upd at hS; simp at hS
        rcases hS with rfl | hS
        · rw [hp] at hy; cases hy; exact absurd he hne
        · exact a5 i y hy hS hne
  · rw [if_pos he]
    have hseg : bl P = Go.Proofs.Ytppkbifhhpakgaa.seg (upd S k) 0 xs := by
      rw [seg_skip (fun q hq _ => by rw [Nat.sub_zero, hp] at hq; cases hq; exact he)]; exact h.seg
    by_cases h3 : er = 0 ∨ p.off < ea
    · rw [if_pos h3]
      refine ⟨p.err, p.off, P, rfl, h.chain, hseg, ⟨fun e0 => absurd e0 he, fun _ => ⟨k, p, hp, by simp [upd], rfl, rfl, fun i q hq hS hne => ?_⟩⟩⟩
      unfold upd at hS; simp at hS
      rcases hS with rfl | hS
      · rw [hp] at hq; cases hq; exact Int.le_refl _
      · rcases h3 with h3 | h3
        · exact absurd (h.err.none h3 i q hq hS) hne
        · by_cases e0 : er = 0
          · exact absurd (h.err.none e0 i q hq hS) hne
          · obtain ⟨j, y, a1, a2, a3, a4, a5⟩ := h.err.some e0
            have := a5 i q hq hS hne
            omega
    · rw [if_neg h3]
      refine ⟨er, ea, P, rfl, h.chain, hseg, ⟨fun e0 => absurd (Or.inl e0) h3, fun e0 => ?_⟩⟩
      obtain ⟨j, y, a1, a2, a3, a4, a5⟩ := h.err.some e0
      refine ⟨j, y, a1, by unfold upd; simp [a2], a3, a4, fun i q hq hS hne => ?_⟩
      unfold upd at hS; simp at hS
      rcases hS with rfl | hS
      · rw [hp] at hq; cases hq; omega
      · exact a5 i q hq hS hne
theorem PS.same {c : Int} {xs : List Prt} {S S' : Nat → Bool} {er ea er' ea' : Int} {P P' : ByteArray} (h : PS c xs S er ea P) (h' : PS c xs S' er' ea' P') (hS : ∀ j, j < xs.length → S j = S' j) : er = er' ∧ P = P' := by
  have lt : ∀ {j : Nat} {p : Prt}, xs[j]? = .some p → j < xs.length := fun hj => (List.getElem?_eq_some_iff.1 hj).1
  refine ⟨?_, bl_inj ?_⟩
  · by_cases e0 : er = 0
    · by_cases e1 : er' = 0
      · omega
      · obtain ⟨j, p, a1, a2, a3, a4, a5⟩ := h'.err.some e1
        have := h.err.none e0 j p a1 (by rw [hS j (lt a1)]; exact a2)
        omega
    · obtain ⟨j, p, a1, a2, a3, a4, a5⟩ := h.err.some e0
      by_cases e1 : er' = 0
      · have := h'.err.none e1 j p a1 (by rw [← hS j (lt a1)]; exact a2)
        omega
      · obtain ⟨i, q, b1, b2, b3, b4, b5⟩ := h'.err.some e1
        have c1 := a5 i q b1 (by rw [hS i (lt b1)]; exact b2) (by omega)
        have c2 := b5 j p a1 (by rw [← hS j (lt a1)]; exact a2) (by omega)
        rcases Nat.lt_trichotomy i j with h1 | h1 | h1
        · have := chain_lt h.chain b1 a1 h1; omega
        · subst h1; rw [a1] at b1; cases b1; omega
        · have := chain_lt h.chain a1 b1 h1; omega
  · rw [h.seg, h'.seg]; exact seg_congr (fun j _ hj => hS j (by omega))

/-- the data of all parts -/
def dats (xs : List Prt) : List UInt8 := xs.flatMap fun p => bl p.dat
theorem seg_all {S : Nat → Bool} : ∀ {xs : List Prt} {i : Nat}, (∀ j, i ≤ j → j < i + xs.length → S j = true) → (∀ p ∈ xs, p.err = 0) → seg S i xs = dats xs
  | [], i, _, _ => rfl
  | p :: r, i, h, he => by
    unfold seg
    rw [if_pos ⟨h i (Nat.le_refl _) (by simp), he p (by simp)⟩, seg_all (fun j h1 h2 => h j (by omega) (by simp at *; omega)) (fun q hq => he q (by simp [hq]))]
    simp [dats]
theorem PS.whole {c : Int} {xs : List Prt} {S : Nat → Bool} {ea : Int} {P W : ByteArray} (h : PS c xs S 0 ea P) (hS : ∀ j, j < xs.length → S j = true) (hW : bl W = dats xs) : P = W := by
  apply bl_inj
  rw [h.seg, hW]
  refine seg_all (fun j _ hj => hS j (by omega)) (fun p hp => ?_)
  obtain ⟨j, hj, rfl⟩ := List.mem_iff_getElem.1 hp
  exact h.err.none rfl j _ (List.getElem?_eq_getElem hj) (hS j hj)
/-- in order: an error stays -/
theorem PS.first {c : Int} {xs : List Prt} {S : Nat → Bool} {er ea : Int} {P : ByteArray} (h : PS c xs S er ea P) {k : Nat} {p : Prt} (hp : xs[k]? = .some p) (hS : ∀ j, S j = true → j < k) (he : er ≠ 0) : ea ≤ p.off := by
  obtain ⟨j, q, a1, a2, a3, a4, a5⟩ := h.err.some he
  have := chain_lt h.chain a1 hp (hS j a2)
  omega
end Go.Proofs.Ytppkbifhhpakgaa
