/- Bytes of contents: plain facts. -/
import Derived.Test.YtebdnnfaghhpkaaPn
namespace Go.Proofs.Ytebdnnfaghhpkaa
open Go.ChangeShapes Go.WideShapes Go.ChangeAt Go.RowKit

/-- byte i of a string, zero behind its end -/
def bat (d : ByteArray) (i : Nat) : UInt8 := d.data.toList.getD i 0
theorem size_list (d : ByteArray) : d.data.toList.length = d.size := Array.length_toList
theorem bat_out {d : ByteArray} {i : Nat} (h : d.size ≤ i) : bat d i = 0 := by
  unfold bat
  rw [List.getD, List.getElem?_eq_none (by rw [size_list]; exact h)]; rfl
theorem bat_ext {a b : ByteArray} (hs : a.size = b.size) (h : ∀ i, i < a.size → bat a i = bat b i) : a = b := by
  have hl : a.data.toList = b.data.toList := by
    apply List.ext_getElem
    · rw [size_list, size_list, hs]
    · intro i h1 h2
      have := h i (by rw [← size_list]; exact h1)
      simpa [bat, List.getD, List.getElem?_eq_getElem h1, List.getElem?_eq_getElem h2] using this
  have hd : a.data = b.data := by rw [← Array.toList_inj]; exact hl
  exact ByteArray.ext hd
theorem bat_append (a b : ByteArray) (i : Nat) : bat (a ++ b) i = if i < a.size then bat a i else bat b (i - a.size) := by
  unfold bat
  rw [ByteArray.data_append, Array.toList_append, List.getD, List.getD, List.getD]
  by_cases h : i < a.size
  · rw [if_pos h, List.getElem?_append_left (by rw [size_list]; exact h)]
  · rw [if_neg h, List.getElem?_append_right (by rw [size_list]; omega), size_list]
theorem bat_extract (a : ByteArray) (x y i : Nat) : bat (a.extract x y) i = if x + i < y then bat a (x + i) else 0 := by
  unfold bat
  rw [ByteArray.data_extract, Array.toList_extract, List.getD, List.getD, List.extract_eq_take_drop]
  by_cases h : x + i < y
  · rw [if_pos h, List.getElem?_take_of_lt (by omega), List.getElem?_drop]
  · rw [if_neg h, List.getElem?_eq_none (by rw [List.length_take]; omega)]; rfl
theorem bat_zeros (n i : Nat) : bat (zeros n) i = 0 := by
  by_cases h : i < n
  · simp [bat, zeros, List.getD, h]
  · exact bat_out (by rw [size_zeros]; omega)
theorem size_extract (a : ByteArray) (x y : Nat) : (a.extract x y).size = min y a.size - x := ByteArray.size_extract
theorem bat_sized (s : ByteArray) (n i : Nat) : bat (sizedS s n) i = if i < n then bat s i else 0 := by
  unfold sizedS
  by_cases h : n ≤ s.size
  · rw [if_pos h, bat_extract, Nat.zero_add]
  · rw [if_neg h, bat_append, bat_zeros]
    by_cases h1 : i < s.size
    · rw [if_pos h1, if_pos (by omega)]
    · rw [if_neg h1, bat_out (by omega)]; simp
theorem putS_size (s : ByteArray) (off : Nat) (b : ByteArray) : (putS s off b).size = max s.size (off + b.size) := by
  unfold putS
  rw [ByteArray.size_append, ByteArray.size_append, size_extract, size_extract, sizedS_size]
  omega
theorem bat_put (s : ByteArray) (off : Nat) (b : ByteArray) (i : Nat) : bat (putS s off b) i = if off ≤ i ∧ i < off + b.size then bat b (i - off) else bat s i := by
  by_cases hM : i < max s.size (off + b.size)
  · have e1 : ((sizedS s (max s.size (off + b.size))).extract 0 off).size = off := by rw [size_extract, sizedS_size]; omega
    unfold putS
    rw [bat_append, bat_append, ByteArray.size_append, e1, bat_extract, bat_extract, bat_sized, bat_sized]
    by_cases h1 : i < off
    · rw [if_pos (by omega), if_pos h1, if_pos (by omega), if_pos (by omega), if_neg (by omega), Nat.zero_add]
    · by_cases h2 : i < off + b.size
      · rw [if_pos h2, if_neg h1, if_pos ⟨by omega, h2⟩]
      · rw [if_neg h2, if_pos (by omega), if_pos (by omega), if_neg (by omega), show off + b.size + (i - (off + b.size)) = i from by omega]
  · rw [bat_out (by rw [putS_size]; omega), if_neg (by omega), bat_out (by omega)]
end Go.Proofs.Ytebdnnfaghhpkaa
