/- ImageDiffers: the plain law. -/
import Derived.Test.YtincobjgfclfjaaWBack
import Derived.Test.YtincobjgfclfjaaWSmall
import Derived.Test.YtincobjgfclfjaaArgs
namespace Go.Proofs.Ytincobjgfclfjaa
open Go.ChangeShapes Go.WideShapes Go.ChangeAt Go.RowKit

def sec (a : ByteArray) (j : Nat) : ByteArray := a.extract (8 * j) (8 * j + 8)
theorem secB_iff (a b : ByteArray) (j : Nat) : secB a b j = true ↔ sec a j = sec b j := by
  unfold secB sec
  constructor
  · intro h
    have h' : (a.extract (8 * j) (8 * j + 8)).toList = (b.extract (8 * j) (8 * j + 8)).toList := by simpa using h
    rw [ByteArray.toList_eq, ByteArray.toList_eq] at h'
    apply ByteArray.ext
    exact Array.ext' h'
  · intro h; rw [h]; simp
theorem imB_of {a : ByteArray} {κ : Nat} (h : a.size = κ * 8) (hk : κ ≤ 128) : imB a.size = true := by unfold imB; simp; omega
theorem put_sec {c D : ByteArray} {κ σ : Nat} (hc : c.size = κ * 8) (hk : κ ≤ 128) (hσ : σ < κ) (hD : D.size = 8) :
    ∃ c', writeS c (σ : Int) D = (c', true) ∧ c'.size = κ * 8 ∧ sec c' σ = D ∧ ∀ j, j < κ → j ≠ σ → sec c' j = sec c j := by
  have hok : okB c.size (σ : Int) ((1 : Nat) : Int) = true := ok_mk (by omega)
  obtain ⟨b, q1, q2, q3, _, q5⟩ := back c D σ 1 hok (by omega)
  have hb : b.size = κ * 8 := by omega
  refine ⟨b, q1, hb, ?_, ?_⟩
  · have := sec_read (a := b) (k := σ) (by omega) (imB_of hb hk)
    have q2' : readS b (σ : Int) 1 = (D, true) := q2
    rw [q2'] at this
    exact (Prod.mk.inj this).1.symm
  · intro j hj hne
    rcases q5 j (by omega) with h | ⟨p, e1, e2⟩
    · omega
    · have h1 := sec_read (a := c) (k := j) (by omega) (imB_of hc hk)
      have h2 := sec_read (a := b) (k := j) (by omega) (imB_of hb hk)
      rw [e1] at h1; rw [e2] at h2
      exact (Prod.mk.inj h2).1.symm.trans (Prod.mk.inj h1).1
theorem sec_ext {c b : ByteArray} {κ : Nat} (hc : c.size = κ * 8) (hb : b.size = κ * 8) (h : ∀ j, j < κ → sec c j = sec b j) : c = b := by
  apply ByteArray.ext
  apply Array.ext
  · show c.size = b.size; omega
  · intro i h1 h2
    have hi : i < c.size := h1
    have hj := h (i / 8) (by omega)
    have := congrArg (fun x : ByteArray => x.data[i % 8]?) hj
    unfold sec at this
    simp only [ByteArray.data_extract, Array.getElem?_extract] at this
    have e : 8 * (i / 8) + i % 8 = i := by omega
    have g1 : i % 8 < min (8 * (i / 8) + 8) c.data.size - 8 * (i / 8) := by
      have : c.data.size = c.size := rfl
      omega
    have g2 : i % 8 < min (8 * (i / 8) + 8) b.data.size - 8 * (i / 8) := by
      have : b.data.size = b.size := rfl
      omega
    rw [if_pos g1, if_pos g2, e, Array.getElem?_eq_getElem h1, Array.getElem?_eq_getElem h2] at this
    exact Option.some.inj this

/-- the numbers of the sectors that differ -/
def difN (a b : ByteArray) (k : Nat) : List Nat := (List.range k).filter fun i => !(secB a b i)
theorem difN_map (a b : ByteArray) (k : Nat) : difL a b k = (difN a b k).map Int.ofNat := rfl
theorem difN_getD (a b : ByteArray) (k i : Nat) (h : i < (difN a b k).length) : (difL a b k).getD i 0 = (((difN a b k).getD i 0 : Nat) : Int) := by
  rw [difN_map]; simp [List.getD, List.getElem?_map, List.getElem?_eq_getElem h]
theorem difN_lt (a b : ByteArray) (k i : Nat) (h : i < (difN a b k).length) : (difN a b k).getD i 0 < k := by
  have : (difN a b k).getD i 0 ∈ difN a b k := by
    rw [List.getD_eq_getElem?_getD, List.getElem?_eq_getElem h]; exact List.getElem_mem h
  have := (List.mem_filter.1 this).1
  simpa using this
theorem difN_up (a b : ByteArray) (k i : Nat) (h : i + 1 < (difN a b k).length) : (difN a b k).getD i 0 < (difN a b k).getD (i + 1) 0 := by
  have hp : (difN a b k).Pairwise (· < ·) := List.Pairwise.filter _ List.pairwise_lt_range
  rw [List.getD_eq_getElem?_getD, List.getD_eq_getElem?_getD, List.getElem?_eq_getElem h, List.getElem?_eq_getElem (by omega : i < _)]
  exact List.pairwise_iff_getElem.1 hp i (i + 1) (by omega) h (by omega)

/-- after i copies -/
structure CInv (a b : ByteArray) (κ i : Nat) (c : ByteArray) : Prop where
  size : c.size = κ * 8
  new : ∀ j, j < κ → j ∈ (difN a b κ).take i → sec c j = sec b j
  old : ∀ j, j < κ → j ∉ (difN a b κ).take i → sec c j = sec a j
theorem CInv.start {a b : ByteArray} {κ : Nat} (h : a.size = κ * 8) : CInv a b κ 0 a := ⟨h, fun j _ hm => by simp at hm, fun _ _ _ => rfl⟩
theorem CInv.step {a b c : ByteArray} {κ i : Nat} (h : CInv a b κ i c) (hk : κ ≤ 128) (hb : b.size = κ * 8) (hi : i < (difN a b κ).length) :
    ∃ c', writeS c (((difN a b κ).getD i 0 : Nat) : Int) (sec b ((difN a b κ).getD i 0)) = (c', true) ∧ CInv a b κ (i + 1) c' := by
  have hlt := difN_lt a b κ i hi
  have ht : (difN a b κ).take (i + 1) = (difN a b κ).take i ++ [(difN a b κ).getD i 0] := by
    rw [List.take_succ_eq_append_getElem hi, List.getD_eq_getElem?_getD, List.getElem?_eq_getElem hi]; rfl
  generalize (difN a b κ).getD i 0 = σ at hlt ht ⊢
  obtain ⟨c', e1, e2, e3, e4⟩ := put_sec (D := sec b σ) h.size hk hlt (by unfold sec; rw [size_extract' _ _ _ (by omega)]; omega)
  refine ⟨c', e1, e2, ?_, ?_⟩
  · intro j hj hm
    rw [ht] at hm
    by_cases e : j = σ
    · rw [e]; exact e3
    · rw [e4 j hj e]
      refine h.new j hj ?_
      rcases List.mem_append.1 hm with h | h
      · exact h
      · simp at h; exact absurd h e
  · intro j hj hm
    rw [ht] at hm
    have hne : j ≠ σ := fun e => hm (by rw [e]; simp)
    rw [e4 j hj hne]
    exact h.old j hj (fun h => hm (List.mem_append.2 (Or.inl h)))
theorem CInv.done {a b c : ByteArray} {κ : Nat} (h : CInv a b κ (difN a b κ).length c) (hb : b.size = κ * 8) : c = b := by
  refine sec_ext h.size hb fun j hj => ?_
  by_cases hm : j ∈ difN a b κ
  · exact h.new j hj (by rw [List.take_length]; exact hm)
  · rw [h.old j hj (by rw [List.take_length]; exact hm)]
    refine (secB_iff a b j).1 ?_
    cases hs : secB a b j with
    | true => rfl
    | false => exact absurd (List.mem_filter.2 ⟨by simpa using hj, by simp [hs]⟩) hm
theorem difN_self (a : ByteArray) (k : Nat) : difN a a k = [] := by
  unfold difN
  rw [List.filter_eq_nil_iff]
  intro j _
  simp [(secB_iff a a j).2 rfl]
end Go.Proofs.Ytincobjgfclfjaa
