/-
  No cell of these rows narrows 'for every input' (looked for: loops, veiled, ifaces, maps, wideKeys, modest, calm, conditions, laid).
  DERIVED. THE GIVEN ROWS OF THIS SEAT. 5 by the template 'for every input the law returns true; each argument reads behind the call as it read before'; 0 by the template 'total and deterministic' (their statements: YtincobjgfclfjaaTotals.lean).
  GIVEN WITH THE SEED: the statements are not yours to turn. If you find one false, say at which input.
  Laid BY PROGRAM, IN A SANDBOX (cutbox-rows.mjs): the forced cells as the released guide's own fill.sh prints them over the translation 46e21d0d88949316… (all of the seat's roots in one cut). By AI agents, Wed Nov 11 2026. No macro, syntax, notation, axiom, sorry.
-/
import Derived.Test.YtincobjgfclfjaaChecked
import GoSem.Claim
import GoSem.ClaimJoined
import GoSem.ClaimMapViews
import Derived.JoinedTies
import Derived.KernelRfl
namespace Go.Proofs.Ytincobjgfclfjaa
/- THE CELL 'sum', in the pinned program and in every row, IS THE sha256 OF THE DUMP (.gsa) THAT YtincobjgfclfjaaProg.lean LOADS. Nothing in Lean hashes anything: it is a label: what it is worth is what the hold of that sum in a sandbox is worth. -/
noncomputable def Try.pinned : Pinned := { name := "ytincobjgfclfjaa", sum := "46e21d0d88949316920329a1b8a867c3a7a3e7139fcf4a6c9a5ff5c321d3bfc9", checked := Try.checked }
namespace Rows
def none {H : Type} : Left H := { results := [], args := [] }

/-- 'pagecachelaw19.ImageExact': WHATEVER THE INPUT: true; the input reads as it did. -/
def imageExactSpec : ChangeSpec := { name := "imageExact", fn := fun _ => fun
  | [d1, d2, d3, d4, d5] => { results := [.lit (.bool true)], args := [d1, d2, d3, d4, d5] }
  | _ => none }
def imageExactRow : OpenClaim := { program := "ytincobjgfclfjaa", sum := "46e21d0d88949316920329a1b8a867c3a7a3e7139fcf4a6c9a5ff5c321d3bfc9", func := "pagecache/pagecachelaw19.ImageExact", spec := "imageExact", inPlace := ["internal/abi.NoEscape", "internal/bytealg.MakeNoZero"], apart := false }
def ImageExactSaid : Prop := imageExactRow.holds Try.pinned (OpenSpec.ofChange imageExactSpec)

/-- ITS FALSE NEIGHBOUR: 'it returns false'. Refute it at one input. -/
def imageExactWrong : ChangeSpec := { name := "imageExact", fn := fun _ => fun
  | [d1, d2, d3, d4, d5] => { results := [.lit (.bool false)], args := [d1, d2, d3, d4, d5] }
  | _ => none }
def ImageExactWrongFalsely : Prop := imageExactRow.holds Try.pinned (OpenSpec.ofChange imageExactWrong)

/-- 'pagecachelaw19.ImageSmall': WHATEVER THE INPUT: true; the input reads as it did. -/
def imageSmallSpec : ChangeSpec := { name := "imageSmall", fn := fun _ => fun
  | [d1, d2, d3, d4, d5] => { results := [.lit (.bool true)], args := [d1, d2, d3, d4, d5] }
  | _ => none }
def imageSmallRow : OpenClaim := { program := "ytincobjgfclfjaa", sum := "46e21d0d88949316920329a1b8a867c3a7a3e7139fcf4a6c9a5ff5c321d3bfc9", func := "pagecache/pagecachelaw19.ImageSmall", spec := "imageSmall", inPlace := ["internal/abi.NoEscape", "internal/bytealg.MakeNoZero"], apart := false }
def ImageSmallSaid : Prop := imageSmallRow.holds Try.pinned (OpenSpec.ofChange imageSmallSpec)

/-- ITS FALSE NEIGHBOUR: 'it returns false'. Refute it at one input. -/
def imageSmallWrong : ChangeSpec := { name := "imageSmall", fn := fun _ => fun
  | [d1, d2, d3, d4, d5] => { results := [.lit (.bool false)], args := [d1, d2, d3, d4, d5] }
  | _ => none }
def ImageSmallWrongFalsely : Prop := imageSmallRow.holds Try.pinned (OpenSpec.ofChange imageSmallWrong)

/-- 'pagecachelaw19.ImageBack': WHATEVER THE INPUT: true; the input reads as it did. -/
def imageBackSpec : ChangeSpec := { name := "imageBack", fn := fun _ => fun
  | [d1, d2, d3, d4, d5, d6] => { results := [.lit (.bool true)], args := [d1, d2, d3, d4, d5, d6] }
  | _ => none }
def imageBackRow : OpenClaim := { program := "ytincobjgfclfjaa", sum := "46e21d0d88949316920329a1b8a867c3a7a3e7139fcf4a6c9a5ff5c321d3bfc9", func := "pagecache/pagecachelaw19.ImageBack", spec := "imageBack", inPlace := ["internal/abi.NoEscape", "internal/bytealg.MakeNoZero"], apart := false }
def ImageBackSaid : Prop := imageBackRow.holds Try.pinned (OpenSpec.ofChange imageBackSpec)

/-- ITS FALSE NEIGHBOUR: 'it returns false'. Refute it at one input. -/
def imageBackWrong : ChangeSpec := { name := "imageBack", fn := fun _ => fun
  | [d1, d2, d3, d4, d5, d6] => { results := [.lit (.bool false)], args := [d1, d2, d3, d4, d5, d6] }
  | _ => none }
def ImageBackWrongFalsely : Prop := imageBackRow.holds Try.pinned (OpenSpec.ofChange imageBackWrong)

/-- 'pagecachelaw19.ImageHalves': WHATEVER THE INPUT: true; the input reads as it did. -/
def imageHalvesSpec : ChangeSpec := { name := "imageHalves", fn := fun _ => fun
  | [d1, d2, d3, d4] => { results := [.lit (.bool true)], args := [d1, d2, d3, d4] }
  | _ => none }
def imageHalvesRow : OpenClaim := { program := "ytincobjgfclfjaa", sum := "46e21d0d88949316920329a1b8a867c3a7a3e7139fcf4a6c9a5ff5c321d3bfc9", func := "pagecache/pagecachelaw19.ImageHalves", spec := "imageHalves", inPlace := ["internal/abi.NoEscape", "internal/bytealg.MakeNoZero"], apart := false }
def ImageHalvesSaid : Prop := imageHalvesRow.holds Try.pinned (OpenSpec.ofChange imageHalvesSpec)

/-- ITS FALSE NEIGHBOUR: 'it returns false'. Refute it at one input. -/
def imageHalvesWrong : ChangeSpec := { name := "imageHalves", fn := fun _ => fun
  | [d1, d2, d3, d4] => { results := [.lit (.bool false)], args := [d1, d2, d3, d4] }
  | _ => none }
def ImageHalvesWrongFalsely : Prop := imageHalvesRow.holds Try.pinned (OpenSpec.ofChange imageHalvesWrong)

/-- 'pagecachelaw19.ImageDiffers': WHATEVER THE INPUT: true; the input reads as it did. -/
def imageDiffersSpec : ChangeSpec := { name := "imageDiffers", fn := fun _ => fun
  | [d1, d2, d3, d4] => { results := [.lit (.bool true)], args := [d1, d2, d3, d4] }
  | _ => none }
def imageDiffersRow : OpenClaim := { program := "ytincobjgfclfjaa", sum := "46e21d0d88949316920329a1b8a867c3a7a3e7139fcf4a6c9a5ff5c321d3bfc9", func := "pagecache/pagecachelaw19.ImageDiffers", spec := "imageDiffers", inPlace := ["internal/abi.NoEscape", "internal/bytealg.MakeNoZero"], apart := false }
def ImageDiffersSaid : Prop := imageDiffersRow.holds Try.pinned (OpenSpec.ofChange imageDiffersSpec)

/-- ITS FALSE NEIGHBOUR: 'it returns false'. Refute it at one input. -/
def imageDiffersWrong : ChangeSpec := { name := "imageDiffers", fn := fun _ => fun
  | [d1, d2, d3, d4] => { results := [.lit (.bool false)], args := [d1, d2, d3, d4] }
  | _ => none }
def ImageDiffersWrongFalsely : Prop := imageDiffersRow.holds Try.pinned (OpenSpec.ofChange imageDiffersWrong)

/- THE SECOND FORM. 'bulk': how many values and letters a reading holds, each counted each time it is reached (what is shared counts as often as it is met; a slice's spare places count too). A statement '..UptoSaid' is the law's where the arguments, and the package variables that the reading takes, are together of bulk at most 1048576: NARROWER than '..Said'. Prove '..Said' where nothing that the law and all that it calls make is longer than what came in: it says more and counts as full. Else prove '..UptoSaid'. A law counts once. -/
mutual
def uptoBulk {H : Type} : DataW H → Nat
  | .lit (.string bytes) => bytes.length + 1
  | .lit _ => 1
  | .nil => 1
  | .ptr d => uptoBulk d + 1
  | .slice elems spare => uptoBulkAll elems + uptoBulkAll spare + 1
  | .agg parts => uptoBulkAll parts + 1
  | .iface _ d => uptoBulk d + 1
  | .map entries => uptoBulkEntries entries + 1
  | .held _ => 1
def uptoBulkAll {H : Type} : List (DataW H) → Nat
  | [] => 0
  | d :: r => uptoBulk d + uptoBulkAll r
def uptoBulkEntries {H : Type} : List (Lit × DataW H) → Nat
  | [] => 0
  | x :: r => uptoBulkEntry x + uptoBulkEntries r
def uptoBulkEntry {H : Type} : Lit × DataW H → Nat
  | (.string bytes, d) => bytes.length + uptoBulk d + 1
  | (_, d) => uptoBulk d + 1
 end
def uptoSmall : (H : Type) → List (DataW H) → Bool := fun _ ds => decide (uptoBulkAll ds ≤ 1048576)
def OpenSpec.upto (s : _root_.Go.ChangeSpec) : _root_.Go.OpenSpec := { _root_.Go.OpenSpec.ofChange s with cond := some uptoSmall }

/-- 'pagecachelaw19.ImageExact', WHERE WHAT IT READS IS OF BULK AT MOST 1048576: true; the input reads as it did. -/
def imageExactUptoRow : OpenClaim := { program := "ytincobjgfclfjaa", sum := "46e21d0d88949316920329a1b8a867c3a7a3e7139fcf4a6c9a5ff5c321d3bfc9", func := "pagecache/pagecachelaw19.ImageExact", spec := "imageExact", inPlace := ["internal/abi.NoEscape", "internal/bytealg.MakeNoZero"], apart := false, narrowed := true }
def ImageExactUptoSaid : Prop := imageExactUptoRow.holds Try.pinned (OpenSpec.upto imageExactSpec)

/-- 'pagecachelaw19.ImageSmall', WHERE WHAT IT READS IS OF BULK AT MOST 1048576: true; the input reads as it did. -/
def imageSmallUptoRow : OpenClaim := { program := "ytincobjgfclfjaa", sum := "46e21d0d88949316920329a1b8a867c3a7a3e7139fcf4a6c9a5ff5c321d3bfc9", func := "pagecache/pagecachelaw19.ImageSmall", spec := "imageSmall", inPlace := ["internal/abi.NoEscape", "internal/bytealg.MakeNoZero"], apart := false, narrowed := true }
def ImageSmallUptoSaid : Prop := imageSmallUptoRow.holds Try.pinned (OpenSpec.upto imageSmallSpec)

/-- 'pagecachelaw19.ImageBack', WHERE WHAT IT READS IS OF BULK AT MOST 1048576: true; the input reads as it did. -/
def imageBackUptoRow : OpenClaim := { program := "ytincobjgfclfjaa", sum := "46e21d0d88949316920329a1b8a867c3a7a3e7139fcf4a6c9a5ff5c321d3bfc9", func := "pagecache/pagecachelaw19.ImageBack", spec := "imageBack", inPlace := ["internal/abi.NoEscape", "internal/bytealg.MakeNoZero"], apart := false, narrowed := true }
def ImageBackUptoSaid : Prop := imageBackUptoRow.holds Try.pinned (OpenSpec.upto imageBackSpec)

/-- 'pagecachelaw19.ImageHalves', WHERE WHAT IT READS IS OF BULK AT MOST 1048576: true; the input reads as it did. -/
def imageHalvesUptoRow : OpenClaim := { program := "ytincobjgfclfjaa", sum := "46e21d0d88949316920329a1b8a867c3a7a3e7139fcf4a6c9a5ff5c321d3bfc9", func := "pagecache/pagecachelaw19.ImageHalves", spec := "imageHalves", inPlace := ["internal/abi.NoEscape", "internal/bytealg.MakeNoZero"], apart := false, narrowed := true }
def ImageHalvesUptoSaid : Prop := imageHalvesUptoRow.holds Try.pinned (OpenSpec.upto imageHalvesSpec)

/-- 'pagecachelaw19.ImageDiffers', WHERE WHAT IT READS IS OF BULK AT MOST 1048576: true; the input reads as it did. -/
def imageDiffersUptoRow : OpenClaim := { program := "ytincobjgfclfjaa", sum := "46e21d0d88949316920329a1b8a867c3a7a3e7139fcf4a6c9a5ff5c321d3bfc9", func := "pagecache/pagecachelaw19.ImageDiffers", spec := "imageDiffers", inPlace := ["internal/abi.NoEscape", "internal/bytealg.MakeNoZero"], apart := false, narrowed := true }
def ImageDiffersUptoSaid : Prop := imageDiffersUptoRow.holds Try.pinned (OpenSpec.upto imageDiffersSpec)

end Rows
end Go.Proofs.Ytincobjgfclfjaa
