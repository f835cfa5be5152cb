/- Sizes of what the operations yield. -/
import Derived.Test.YtebdnnfaghhpkaaPnr
namespace Go.Proofs.Ytebdnnfaghhpkaa
open Go.ChangeShapes Go.WideShapes Go.ChangeAt Go.RowKit

theorem writeV_size8 {s b : ByteArray} {o : Nat} (hs : s.size ≤ 8) (ho : o ≤ 5) (hb : b.size ≤ 3) : (writeV s (o : Int) b).1.size ≤ 8 := by
  unfold writeV
  split
  · exact hs
  · split
    · exact hs
    · split
      · exact hs
      · show (putS s _ b).size ≤ 8
        rw [putS_size]
        omega
theorem truncV_size8 {s : ByteArray} {n : Nat} (hs : s.size ≤ 8) (hn : n ≤ 7) : (truncV s (n : Int)).1.size ≤ 8 := by
  unfold truncV
  split
  · exact hs
  · split
    · exact hs
    · show (sizedS s _).size ≤ 8
      rw [sizedS_size]
      omega
theorem punchV_size8 {s : ByteArray} {o n : Nat} (hs : s.size ≤ 8) : (punchV s (o : Int) (n : Int)).1.size ≤ 8 := by
  unfold punchV
  split
  · exact hs
  · split
    · exact hs
    · split
      · exact hs
      · show (putS s _ _).size ≤ 8
        rw [putS_size, sizedS_size]
        omega
end Go.Proofs.Ytebdnnfaghhpkaa
