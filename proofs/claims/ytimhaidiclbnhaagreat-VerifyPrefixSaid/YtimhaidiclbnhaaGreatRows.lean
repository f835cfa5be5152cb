/-
  No cell of these rows narrows 'for every input' (looked for: loops, veiled, ifaces, maps, wideKeys, modest, calm, conditions, laid).
  DERIVED. THE GIVEN ROWS OF THIS SEAT. 4 by the template 'for every input the law returns true; each argument reads behind the call as it read before'; 0 by the template 'total and deterministic' (their statements: YtimhaidiclbnhaaGreatTotals.lean).
  GIVEN WITH THE SEED: the statements are not yours to turn. If you find one false, say at which input.
  Laid BY PROGRAM, IN A SANDBOX (cutbox-rows.mjs): the forced cells as the released guide's own fill.sh prints them over the translation cc152e2fb460c8fd… (all of the seat's roots in one cut). By AI agents, Wed Nov 11 2026. No macro, syntax, notation, axiom, sorry.
-/
import Derived.Test.YtimhaidiclbnhaaGreatChecked
import GoSem.Claim
import GoSem.ClaimJoined
import GoSem.ClaimMapViews
import Derived.JoinedTies
import Derived.KernelRfl
namespace Go.Proofs.YtimhaidiclbnhaaGreat
/- THE CELL 'sum', in the pinned program and in every row, IS THE sha256 OF THE DUMP (.gsa) THAT YtimhaidiclbnhaaGreatProg.lean LOADS. Nothing in Lean hashes anything: it is a label: what it is worth is what the hold of that sum in a sandbox is worth. -/
noncomputable def Tryz.pinned : Pinned := { name := "ytimhaidiclbnhaagreat", sum := "cc152e2fb460c8fd494e575bc3319c927815ec520123ede646aa8042aec143a6", checked := Tryz.checked }
namespace Rows
def none {H : Type} : Left H := { results := [], args := [] }

/-- 'pagecachelaw46.VerifyRight': WHATEVER THE INPUT: true; the input reads as it did. -/
def verifyRightSpec : ChangeSpec := { name := "verifyRight", fn := fun _ => fun
  | [d1, d2] => { results := [.lit (.bool true)], args := [d1, d2] }
  | _ => none }
def verifyRightRow : OpenClaim := { program := "ytimhaidiclbnhaagreat", sum := "cc152e2fb460c8fd494e575bc3319c927815ec520123ede646aa8042aec143a6", func := "pagecache/pagecachelaw46.VerifyRight", spec := "verifyRight", inPlace := ["internal/abi.NoEscape", "internal/bytealg.MakeNoZero", "slices.overlaps[pagecache/api.Area]"], unfollowed := true, recurses := true, apart := false }
def VerifyRightSaid : Prop := verifyRightRow.holds Tryz.pinned (OpenSpec.ofChange verifyRightSpec)

/-- ITS FALSE NEIGHBOUR: 'it returns false'. Refute it at one input. -/
def verifyRightWrong : ChangeSpec := { name := "verifyRight", fn := fun _ => fun
  | [d1, d2] => { results := [.lit (.bool false)], args := [d1, d2] }
  | _ => none }
def VerifyRightWrongFalsely : Prop := verifyRightRow.holds Tryz.pinned (OpenSpec.ofChange verifyRightWrong)

/-- 'pagecachelaw46.VerifyCatches': WHATEVER THE INPUT: true; the input reads as it did. -/
def verifyCatchesSpec : ChangeSpec := { name := "verifyCatches", fn := fun _ => fun
  | [d1, d2] => { results := [.lit (.bool true)], args := [d1, d2] }
  | _ => none }
def verifyCatchesRow : OpenClaim := { program := "ytimhaidiclbnhaagreat", sum := "cc152e2fb460c8fd494e575bc3319c927815ec520123ede646aa8042aec143a6", func := "pagecache/pagecachelaw46.VerifyCatches", spec := "verifyCatches", inPlace := ["internal/abi.NoEscape", "internal/bytealg.MakeNoZero", "slices.overlaps[pagecache/api.Area]"], unfollowed := true, recurses := true, apart := false }
def VerifyCatchesSaid : Prop := verifyCatchesRow.holds Tryz.pinned (OpenSpec.ofChange verifyCatchesSpec)

/-- ITS FALSE NEIGHBOUR: 'it returns false'. Refute it at one input. -/
def verifyCatchesWrong : ChangeSpec := { name := "verifyCatches", fn := fun _ => fun
  | [d1, d2] => { results := [.lit (.bool false)], args := [d1, d2] }
  | _ => none }
def VerifyCatchesWrongFalsely : Prop := verifyCatchesRow.holds Tryz.pinned (OpenSpec.ofChange verifyCatchesWrong)

/-- 'pagecachelaw46.VerifyPrefix': WHATEVER THE INPUT: true; the input reads as it did. -/
def verifyPrefixSpec : ChangeSpec := { name := "verifyPrefix", fn := fun _ => fun
  | [d1, d2, d3] => { results := [.lit (.bool true)], args := [d1, d2, d3] }
  | _ => none }
def verifyPrefixRow : OpenClaim := { program := "ytimhaidiclbnhaagreat", sum := "cc152e2fb460c8fd494e575bc3319c927815ec520123ede646aa8042aec143a6", func := "pagecache/pagecachelaw46.VerifyPrefix", spec := "verifyPrefix", inPlace := ["internal/abi.NoEscape", "internal/bytealg.MakeNoZero", "slices.overlaps[pagecache/api.Area]"], unfollowed := true, recurses := true, apart := false }
def VerifyPrefixSaid : Prop := verifyPrefixRow.holds Tryz.pinned (OpenSpec.ofChange verifyPrefixSpec)

/-- ITS FALSE NEIGHBOUR: 'it returns false'. Refute it at one input. -/
def verifyPrefixWrong : ChangeSpec := { name := "verifyPrefix", fn := fun _ => fun
  | [d1, d2, d3] => { results := [.lit (.bool false)], args := [d1, d2, d3] }
  | _ => none }
def VerifyPrefixWrongFalsely : Prop := verifyPrefixRow.holds Tryz.pinned (OpenSpec.ofChange verifyPrefixWrong)

/-- 'pagecachelaw46.VerifySynced': WHATEVER THE INPUT: true; the input reads as it did. -/
def verifySyncedSpec : ChangeSpec := { name := "verifySynced", fn := fun _ => fun
  | [d1, d2] => { results := [.lit (.bool true)], args := [d1, d2] }
  | _ => none }
def verifySyncedRow : OpenClaim := { program := "ytimhaidiclbnhaagreat", sum := "cc152e2fb460c8fd494e575bc3319c927815ec520123ede646aa8042aec143a6", func := "pagecache/pagecachelaw46.VerifySynced", spec := "verifySynced", inPlace := ["internal/abi.NoEscape", "internal/bytealg.MakeNoZero", "slices.overlaps[pagecache/api.Area]"], unfollowed := true, recurses := true, apart := false }
def VerifySyncedSaid : Prop := verifySyncedRow.holds Tryz.pinned (OpenSpec.ofChange verifySyncedSpec)

/-- ITS FALSE NEIGHBOUR: 'it returns false'. Refute it at one input. -/
def verifySyncedWrong : ChangeSpec := { name := "verifySynced", fn := fun _ => fun
  | [d1, d2] => { results := [.lit (.bool false)], args := [d1, d2] }
  | _ => none }
def VerifySyncedWrongFalsely : Prop := verifySyncedRow.holds Tryz.pinned (OpenSpec.ofChange verifySyncedWrong)

/- THE SECOND FORM. 'bulk': how many values and letters a reading holds, each counted each time it is reached (what is shared counts as often as it is met; a slice's spare places count too). A statement '..UptoSaid' is the law's where the arguments, and the package variables that the reading takes, are together of bulk at most 1048576: NARROWER than '..Said'. Prove '..Said' where nothing that the law and all that it calls make is longer than what came in: it says more and counts as full. Else prove '..UptoSaid'. A law counts once. -/
mutual
def uptoBulk {H : Type} : DataW H → Nat
  | .lit (.string bytes) => bytes.length + 1
  | .lit _ => 1
  | .nil => 1
  | .ptr d => uptoBulk d + 1
  | .slice elems spare => uptoBulkAll elems + uptoBulkAll spare + 1
  | .agg parts => uptoBulkAll parts + 1
  | .iface _ d => uptoBulk d + 1
  | .map entries => uptoBulkEntries entries + 1
  | .held _ => 1
def uptoBulkAll {H : Type} : List (DataW H) → Nat
  | [] => 0
  | d :: r => uptoBulk d + uptoBulkAll r
def uptoBulkEntries {H : Type} : List (Lit × DataW H) → Nat
  | [] => 0
  | x :: r => uptoBulkEntry x + uptoBulkEntries r
def uptoBulkEntry {H : Type} : Lit × DataW H → Nat
  | (.string bytes, d) => bytes.length + uptoBulk d + 1
  | (_, d) => uptoBulk d + 1
 end
def uptoSmall : (H : Type) → List (DataW H) → Bool := fun _ ds => decide (uptoBulkAll ds ≤ 1048576)
def OpenSpec.upto (s : _root_.Go.ChangeSpec) : _root_.Go.OpenSpec := { _root_.Go.OpenSpec.ofChange s with cond := some uptoSmall }

/-- 'pagecachelaw46.VerifyRight', WHERE WHAT IT READS IS OF BULK AT MOST 1048576: true; the input reads as it did. -/
def verifyRightUptoRow : OpenClaim := { program := "ytimhaidiclbnhaagreat", sum := "cc152e2fb460c8fd494e575bc3319c927815ec520123ede646aa8042aec143a6", func := "pagecache/pagecachelaw46.VerifyRight", spec := "verifyRight", inPlace := ["internal/abi.NoEscape", "internal/bytealg.MakeNoZero", "slices.overlaps[pagecache/api.Area]"], unfollowed := true, recurses := true, apart := false, narrowed := true }
def VerifyRightUptoSaid : Prop := verifyRightUptoRow.holds Tryz.pinned (OpenSpec.upto verifyRightSpec)

/-- 'pagecachelaw46.VerifyCatches', WHERE WHAT IT READS IS OF BULK AT MOST 1048576: true; the input reads as it did. -/
def verifyCatchesUptoRow : OpenClaim := { program := "ytimhaidiclbnhaagreat", sum := "cc152e2fb460c8fd494e575bc3319c927815ec520123ede646aa8042aec143a6", func := "pagecache/pagecachelaw46.VerifyCatches", spec := "verifyCatches", inPlace := ["internal/abi.NoEscape", "internal/bytealg.MakeNoZero", "slices.overlaps[pagecache/api.Area]"], unfollowed := true, recurses := true, apart := false, narrowed := true }
def VerifyCatchesUptoSaid : Prop := verifyCatchesUptoRow.holds Tryz.pinned (OpenSpec.upto verifyCatchesSpec)

/-- 'pagecachelaw46.VerifyPrefix', WHERE WHAT IT READS IS OF BULK AT MOST 1048576: true; the input reads as it did. -/
def verifyPrefixUptoRow : OpenClaim := { program := "ytimhaidiclbnhaagreat", sum := "cc152e2fb460c8fd494e575bc3319c927815ec520123ede646aa8042aec143a6", func := "pagecache/pagecachelaw46.VerifyPrefix", spec := "verifyPrefix", inPlace := ["internal/abi.NoEscape", "internal/bytealg.MakeNoZero", "slices.overlaps[pagecache/api.Area]"], unfollowed := true, recurses := true, apart := false, narrowed := true }
def VerifyPrefixUptoSaid : Prop := verifyPrefixUptoRow.holds Tryz.pinned (OpenSpec.upto verifyPrefixSpec)

/-- 'pagecachelaw46.VerifySynced', WHERE WHAT IT READS IS OF BULK AT MOST 1048576: true; the input reads as it did. -/
def verifySyncedUptoRow : OpenClaim := { program := "ytimhaidiclbnhaagreat", sum := "cc152e2fb460c8fd494e575bc3319c927815ec520123ede646aa8042aec143a6", func := "pagecache/pagecachelaw46.VerifySynced", spec := "verifySynced", inPlace := ["internal/abi.NoEscape", "internal/bytealg.MakeNoZero", "slices.overlaps[pagecache/api.Area]"], unfollowed := true, recurses := true, apart := false, narrowed := true }
def VerifySyncedUptoSaid : Prop := verifySyncedUptoRow.holds Tryz.pinned (OpenSpec.upto verifySyncedSpec)

end Rows
end Go.Proofs.YtimhaidiclbnhaaGreat
