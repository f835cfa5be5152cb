/- Plain facts for the laws on writes apart and on truncating twice. -/
import Derived.Test.YtebdnnfaghhpkaaPnr
namespace Go.Proofs.Ytebdnnfaghhpkaa
open Go.ChangeShapes Go.WideShapes Go.ChangeAt Go.RowKit

theorem write_ok {s b : ByteArray} {o : Nat} (hs : s.size ≤ 128) (ho : o + b.size ≤ 128) (hb : 0 < b.size) : writeV s (o : Int) b = (putS s o b, 0) := by
  unfold writeV
  rw [if_neg (by rw [longB_iff]; omega), if_neg (by rw [badB_iff]; omega), if_neg (by omega), show ((o : Int)).toNat = o from by omega]
theorem trunc_ok {s : ByteArray} {n : Nat} (hs : s.size ≤ 128) (hn : n ≤ 128) : truncV s (n : Int) = (sizedS s n, 0) := by
  unfold truncV
  rw [if_neg (by rw [longB_iff]; omega), if_neg (by rw [badB_iff]; omega), show ((n : Int)).toNat = n from by omega]
theorem put_comm (s a b : ByteArray) (o p : Nat) (h : o + a.size ≤ p) : putS (putS s o a) p b = putS (putS s p b) o a := by
  apply bat_ext
  · rw [putS_size, putS_size, putS_size, putS_size]; omega
  · intro i _
    rw [bat_put, bat_put, bat_put, bat_put]
    by_cases c1 : p ≤ i ∧ i < p + b.size
    · rw [if_pos c1, if_neg (by omega), if_pos c1]
    · rw [if_neg c1, if_neg c1]
theorem extract_put (x c : ByteArray) (o : Nat) : (putS x o c).extract o (o + c.size) = c := by
  apply bat_ext
  · rw [size_extract, putS_size]; omega
  · intro i hi
    rw [size_extract, putS_size] at hi
    rw [bat_extract, if_pos (by omega), bat_put, if_pos ⟨by omega, by omega⟩, show o + i - o = i from by omega]
theorem read_ok {x c : ByteArray} {o : Nat} (hx : x.size ≤ 128) (ho : o + c.size ≤ 128) : readV (putS x o c) (o : Int) (c.size : Int) = (c, 0) := by
  have hsz : (putS x o c).size = max x.size (o + c.size) := putS_size _ _ _
  unfold readV
  rw [if_neg (by rw [longB_iff]; omega), if_neg (by rw [badB_iff]; omega), show ((o : Int)).toNat = o from by omega, show ((c.size : Int)).toNat = c.size from by omega,
    show min o (putS x o c).size = o from by omega, show min c.size ((putS x o c).size - o) = c.size from by omega, extract_put]
theorem sized_twice (s : ByteArray) (m n : Nat) : sizedS (sizedS s m) n = sizedS (sizedS s (min m n)) n := by
  apply bat_ext
  · rw [sizedS_size, sizedS_size]
  · intro i hi
    rw [sizedS_size] at hi
    rw [bat_sized, bat_sized, bat_sized, bat_sized, if_pos hi, if_pos hi]
    by_cases c : i < m
    · rw [if_pos c, if_pos (by omega)]
    · rw [if_neg c, if_neg (by omega)]
end Go.Proofs.Ytebdnnfaghhpkaa
