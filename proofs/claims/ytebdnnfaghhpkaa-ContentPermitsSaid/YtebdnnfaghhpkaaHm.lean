/- Which contents a history permits: plain. -/
import Derived.Test.YtebdnnfaghhpkaaHi
import Derived.Test.YtebdnnfaghhpkaaPl
namespace Go.Proofs.Ytebdnnfaghhpkaa
open Go.ChangeShapes Go.WideShapes Go.ChangeAt Go.RowKit

/-- whether p holds at one of the elements from q to k -/
def anyFrom (p : ByteArray → Bool) (l : List ByteArray) (q k : Nat) : Bool := ((l.take k).drop q).any p
theorem anyFrom_zero (p : ByteArray → Bool) (l : List ByteArray) (q k : Nat) (h : k ≤ q) : anyFrom p l q k = false := by
  unfold anyFrom
  rw [List.drop_eq_nil_of_le (by rw [List.length_take]; omega)]; rfl
theorem anyFrom_succ (p : ByteArray → Bool) (l : List ByteArray) (q k : Nat) (h : q ≤ k) (hk : k < l.length) : anyFrom p l q (k + 1) = (anyFrom p l q k || p (l.getD k ByteArray.empty)) := by
  unfold anyFrom
  have hg : l.getD k ByteArray.empty = l[k] := by simp [List.getD, hk]
  rw [hg, List.take_succ_eq_append_getElem hk, List.drop_append_of_le_length (by rw [List.length_take]; omega)]
  simp
theorem anyFrom_all (p : ByteArray → Bool) (l : List ByteArray) (q : Nat) : anyFrom p l q l.length = (l.drop q).any p := by unfold anyFrom; rw [List.take_length]
/-- whether all bytes below k are found -/
def allTo (l : List ByteArray) (q : Nat) (s : ByteArray) (k : Nat) : Bool := (List.range k).all fun i => (l.drop q).any fun x => bat x i == bat s i
theorem allTo_succ (l : List ByteArray) (q : Nat) (s : ByteArray) (k : Nat) : allTo l q s (k + 1) = (allTo l q s k && (l.drop q).any fun x => bat x k == bat s k) := by
  unfold allTo; rw [List.range_succ, List.all_append]; simp
/-- whether a history permits a content -/
def mayV (l : List ByteArray) (q : Int) (s : ByteArray) : Bool := decide (0 ≤ q ∧ q < l.length) && (allTo l q.toNat s 128 && (l.drop q.toNat).any fun x => x.size == s.size)
theorem mayV_out {l : List ByteArray} {q : Int} {s : ByteArray} (h : q < 0 ∨ (l.length : Int) ≤ q) : mayV l q s = false := by
  unfold mayV; rw [decide_eq_false (by omega)]; rfl
theorem mayV_in {l : List ByteArray} {q : Nat} {s : ByteArray} (h : q < l.length) : mayV l (q : Int) s = (allTo l q s 128 && (l.drop q).any fun x => x.size == s.size) := by
  unfold mayV; rw [decide_eq_true (by omega), Bool.true_and, show ((q : Int)).toNat = q from by omega]
theorem allTo_false {l : List ByteArray} {q : Nat} {s : ByteArray} {k n : Nat} (h : ((l.drop q).any fun x => bat x k == bat s k) = false) (hk : k < n) : allTo l q s n = false := by
  unfold allTo
  rw [List.all_eq_false]
  exact ⟨k, List.mem_range.2 hk, by rw [h]; simp⟩
end Go.Proofs.Ytebdnnfaghhpkaa
