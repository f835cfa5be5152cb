/- Plain facts for ContentLaws. -/
import Derived.Test.YtebdnnfaghhpkaaAp
namespace Go.Proofs.Ytebdnnfaghhpkaa
open Go.ChangeShapes Go.WideShapes Go.ChangeAt Go.RowKit

theorem get_bat (d : ByteArray) (i : Nat) (h : i < d.size) : d[i] = bat d i := by
  have h2 : i < d.data.toList.length := by rw [size_list]; exact h
  unfold bat
  simp [List.getD, List.getElem?_eq_getElem h2, ByteArray.getElem_eq_getElem_data]
theorem empty_bat (i : Nat) : bat ⟨#[]⟩ i = 0 := bat_out (by show 0 ≤ i; omega)
theorem laws_plain (s b : ByteArray) (o n : Nat) (hs : s.size ≤ 39) (hb : 1 ≤ b.size) (hb2 : b.size ≤ 20) (ho : o ≤ 49) (hn : n ≤ 59) :
    ∃ x y z p : ByteArray, writeV s (o : Int) b = (x, 0) ∧ readV x (o : Int) (b.size : Int) = (b, 0) ∧ truncV x (n : Int) = (y, 0) ∧ truncV y (x.size : Int) = (z, 0) ∧ punchV x (o : Int) (b.size : Int) = (p, 0) ∧
      x.size ≤ 128 ∧ y.size = n ∧ z.size = x.size ∧ p.size = x.size ∧
      (∀ k, k < x.size → bat z k = if n ≤ k then 0 else bat x k) ∧ (∀ k, k < x.size → bat p k = if o ≤ k ∧ k < o + b.size then 0 else bat x k) := by
  have hx : (putS s o b).size = max s.size (o + b.size) := putS_size _ _ _
  have hm : min ((b.size : Nat) : Int) (((putS s o b).size : Int) - (o : Int)) = (b.size : Int) := by rw [hx]; omega
  refine ⟨putS s o b, sizedS (putS s o b) n, sizedS (sizedS (putS s o b) n) (putS s o b).size, putS (putS s o b) o (sizedS ⟨#[]⟩ b.size), write_ok (by omega) (by omega) (by omega), read_ok (by omega) (by omega), trunc_ok (by omega) (by omega), trunc_ok (by rw [sizedS_size]; omega) (by omega), ?_, by omega, sizedS_size _ _, sizedS_size _ _, ?_, ?_, ?_⟩
  · unfold punchV
    rw [if_neg (by rw [longB_iff]; omega), if_neg (by rw [badB_iff]; omega), hm, if_neg (by omega), show ((o : Int)).toNat = o from by omega, show ((b.size : Int)).toNat = b.size from by omega]
  · rw [putS_size, sizedS_size]; omega
  · intro k hk
    rw [bat_sized, if_pos hk, bat_sized]
    by_cases c : k < n
    · rw [if_pos c, if_neg (by omega)]
    · rw [if_neg c, if_pos (by omega)]
  · intro k hk
    rw [bat_put (putS s o b), sizedS_size, bat_sized]
    by_cases c : o ≤ k ∧ k < o + b.size
    · rw [if_pos c, if_pos c, empty_bat]; simp
    · rw [if_neg c, if_neg c]
end Go.Proofs.Ytebdnnfaghhpkaa
