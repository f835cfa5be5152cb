/- The walks of the three laws on contents, joined with the sanity check. -/
import Derived.Test.YtebdnnfaghhpkaaAwk
import Derived.Test.YtebdnnfaghhpkaaWap
import Derived.Test.YtebdnnfaghhpkaaWla
namespace Go.Proofs.Ytebdnnfaghhpkaa
open Go.ChangeShapes Go.WideShapes Go.ChangeAt Go.RowKit
theorem calls_all (a : Option Addr) (len cap : Nat) (w : World) (ha : ArgRow w a len) (hl : len ≤ maxLen) : Calls Try.prog 3 #[.slice a len cap] w (RetW (.bool true) w) := calls_walk awake_any a len cap w ha hl
theorem apart_all (a : Option Addr) (len cap : Nat) (w : World) (ha : ArgRow w a len) (hl : len ≤ maxLen) : Calls Try.prog 7 #[.slice a len cap] w (RetW (.bool true) w) := apart_walk awake_any a len cap w ha hl
theorem laws_all (a : Option Addr) (len cap : Nat) (w : World) (ha : ArgRow w a len) (hl : len ≤ maxLen) : Calls Try.prog 6 #[.slice a len cap] w (RetW (.bool true) w) := laws_walk awake_any a len cap w ha hl
end Go.Proofs.Ytebdnnfaghhpkaa
