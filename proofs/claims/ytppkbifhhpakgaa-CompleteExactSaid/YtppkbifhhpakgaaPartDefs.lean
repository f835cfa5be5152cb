/- Contracts of layer 35: Part. -/
import Derived.Test.YtppkbifhhpakgaaBase
namespace Go.Proofs.Ytppkbifhhpakgaa
open Go.ChangeShapes Go.WideShapes Go.ChangeAt Go.RowKit

/-- the data of a parent with the data of a part put in -/
def putS (P : ByteArray) (off cnt : Int) (d : ByteArray) : ByteArray := P.extract 0 (off * 8).toNat ++ d ++ P.extract ((off + cnt) * 8).toNat P.size
def partS (k c lf er ea : Int) (P : ByteArray) (off cnt x : Int) (d : ByteArray) : Int × Int × Int × ByteArray :=
  if fitB c = false then (lf, er, ea, P)
  else if x ≠ 0 then (if er = 0 ∨ off < ea then (wrap64 (lf - 1), x, off, P) else (wrap64 (lf - 1), er, ea, P))
  else if fitsB k c off cnt P d = true then (wrap64 (lf - 1), er, ea, putS P off cnt d) else (wrap64 (lf - 1), er, ea, P)

end Go.Proofs.Ytppkbifhhpakgaa
