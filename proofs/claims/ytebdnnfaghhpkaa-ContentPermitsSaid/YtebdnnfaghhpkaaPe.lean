/- Plain facts for ContentPermits. -/
import Derived.Test.YtebdnnfaghhpkaaHm
import Derived.Test.YtebdnnfaghhpkaaHs
namespace Go.Proofs.Ytebdnnfaghhpkaa
open Go.ChangeShapes Go.WideShapes Go.ChangeAt Go.RowKit

theorem allTo_iff (l : List ByteArray) (q : Nat) (s : ByteArray) (n : Nat) : allTo l q s n = true ↔ ∀ i, i < n → ∃ x, x ∈ l.drop q ∧ bat x i = bat s i := by
  unfold allTo
  rw [List.all_eq_true]
  constructor
  · intro h i hi
    have := h i (List.mem_range.2 hi)
    obtain ⟨x, hx, he⟩ := List.any_eq_true.1 this
    exact ⟨x, hx, by simpa using he⟩
  · intro h i hi
    obtain ⟨x, hx, he⟩ := h i (List.mem_range.1 hi)
    exact List.any_eq_true.2 ⟨x, hx, by simpa using he⟩
theorem mayV_iff {l : List ByteArray} {q : Nat} {s : ByteArray} (h : q < l.length) : mayV l (q : Int) s = true ↔ (∀ i, i < 128 → ∃ x, x ∈ l.drop q ∧ bat x i = bat s i) ∧ ∃ x, x ∈ l.drop q ∧ x.size = s.size := by
  rw [mayV_in h, Bool.and_eq_true, allTo_iff, List.any_eq_true]
  simp only [beq_iff_eq]
theorem may_own {l : List ByteArray} {q k : Nat} (h : q ≤ k) (hk : k < l.length) : mayV l (q : Int) (l.getD k ByteArray.empty) = true := by
  have hm : l.getD k ByteArray.empty ∈ l.drop q := by
    have e : l.getD k ByteArray.empty = l[k] := by simp [List.getD, hk]
    rw [e, List.mem_drop_iff_getElem]
    exact ⟨k - q, by omega, by congr 1; omega⟩
  rw [mayV_iff (by omega)]
  exact ⟨fun i _ => ⟨_, hm, rfl⟩, _, hm, rfl⟩
theorem may_more {l : List ByteArray} {q : Nat} {s x : ByteArray} (hq : q < l.length) (h : mayV l (q : Int) s = true) : mayV (l ++ [x]) (q : Int) s = true := by
  rw [mayV_iff hq] at h
  rw [mayV_iff (by simp; omega)]
  have hd : ∀ y, y ∈ l.drop q → y ∈ (l ++ [x]).drop q := by
    intro y hy
    rw [List.drop_append_of_le_length (by omega)]
    exact List.mem_append_left _ hy
  obtain ⟨h1, y, hy, he⟩ := h
  exact ⟨fun i hi => by obtain ⟨z, hz, e⟩ := h1 i hi; exact ⟨z, hd z hz, e⟩, y, hd y hy, he⟩
theorem may_later {l : List ByteArray} {q p : Nat} {s : ByteArray} (hqp : q ≤ p) (hp : p < l.length) (h : mayV l (p : Int) s = true) : mayV l (q : Int) s = true := by
  rw [mayV_iff hp] at h
  rw [mayV_iff (by omega)]
  have hd : ∀ y, y ∈ l.drop p → y ∈ l.drop q := by
    intro y hy
    rw [show p = q + (p - q) from by omega, ← List.drop_drop] at hy
    exact List.mem_of_mem_drop hy
  obtain ⟨h1, y, hy, he⟩ := h
  exact ⟨fun i hi => by obtain ⟨z, hz, e⟩ := h1 i hi; exact ⟨z, hd z hz, e⟩, y, hd y hy, he⟩
theorem syncV_nat {n q : Nat} {t : Int} (hq : q < n) : ∃ p : Nat, syncV n (q : Int) t = (p : Int) ∧ q ≤ p ∧ p < n := by
  unfold syncV
  split
  · exact ⟨t.toNat, by omega, by omega, by omega⟩
  · exact ⟨q, rfl, Nat.le_refl _, hq⟩
end Go.Proofs.Ytebdnnfaghhpkaa
