/-
  No cell of these rows narrows 'for every input' (looked for: loops, veiled, ifaces, maps, wideKeys, modest, calm, conditions, laid).
  DERIVED. THE GIVEN ROWS OF THIS SEAT. 4 by the template 'for every input the law returns true; each argument reads behind the call as it read before'; 0 by the template 'total and deterministic' (their statements: YtppkbifhhpakgaaTotals.lean).
  GIVEN WITH THE SEED: the statements are not yours to turn. If you find one false, say at which input.
  Laid BY PROGRAM, IN A SANDBOX (cutbox-rows.mjs): the forced cells as the released guide's own fill.sh prints them over the translation c67c0072c5acf366… (all of the seat's roots in one cut). By AI agents, Wed Nov 11 2026. No macro, syntax, notation, axiom, sorry.
-/
import Derived.Test.YtppkbifhhpakgaaChecked
import GoSem.Claim
import GoSem.ClaimJoined
import GoSem.ClaimMapViews
import Derived.JoinedTies
import Derived.KernelRfl
namespace Go.Proofs.Ytppkbifhhpakgaa
/- THE CELL 'sum', in the pinned program and in every row, IS THE sha256 OF THE DUMP (.gsa) THAT YtppkbifhhpakgaaProg.lean LOADS. Nothing in Lean hashes anything: it is a label: what it is worth is what the hold of that sum in a sandbox is worth. -/
noncomputable def Try.pinned : Pinned := { name := "ytppkbifhhpakgaa", sum := "c67c0072c5acf36655afd799be5583cfd6f7a839e3de7659fcb29f121cf2c633", checked := Try.checked }
namespace Rows
def none {H : Type} : Left H := { results := [], args := [] }

/-- 'pagecachelaw35.CompleteExact': WHATEVER THE INPUT: true; the input reads as it did. -/
def completeExactSpec : ChangeSpec := { name := "completeExact", fn := fun _ => fun
  | [d1, d2, d3, d4, d5, d6, d7] => { results := [.lit (.bool true)], args := [d1, d2, d3, d4, d5, d6, d7] }
  | _ => none }
def completeExactRow : OpenClaim := { program := "ytppkbifhhpakgaa", sum := "c67c0072c5acf36655afd799be5583cfd6f7a839e3de7659fcb29f121cf2c633", func := "pagecache/pagecachelaw35.CompleteExact", spec := "completeExact", inPlace := ["internal/abi.NoEscape", "internal/bytealg.MakeNoZero"], apart := false }
def CompleteExactSaid : Prop := completeExactRow.holds Try.pinned (OpenSpec.ofChange completeExactSpec)

/-- ITS FALSE NEIGHBOUR: 'it returns false'. Refute it at one input. -/
def completeExactWrong : ChangeSpec := { name := "completeExact", fn := fun _ => fun
  | [d1, d2, d3, d4, d5, d6, d7] => { results := [.lit (.bool false)], args := [d1, d2, d3, d4, d5, d6, d7] }
  | _ => none }
def CompleteExactWrongFalsely : Prop := completeExactRow.holds Try.pinned (OpenSpec.ofChange completeExactWrong)

/-- 'pagecachelaw35.CompleteSmall': WHATEVER THE INPUT: true; the input reads as it did. -/
def completeSmallSpec : ChangeSpec := { name := "completeSmall", fn := fun _ => fun
  | [d1, d2, d3] => { results := [.lit (.bool true)], args := [d1, d2, d3] }
  | _ => none }
def completeSmallRow : OpenClaim := { program := "ytppkbifhhpakgaa", sum := "c67c0072c5acf36655afd799be5583cfd6f7a839e3de7659fcb29f121cf2c633", func := "pagecache/pagecachelaw35.CompleteSmall", spec := "completeSmall", inPlace := ["internal/abi.NoEscape", "internal/bytealg.MakeNoZero"], apart := false }
def CompleteSmallSaid : Prop := completeSmallRow.holds Try.pinned (OpenSpec.ofChange completeSmallSpec)

/-- ITS FALSE NEIGHBOUR: 'it returns false'. Refute it at one input. -/
def completeSmallWrong : ChangeSpec := { name := "completeSmall", fn := fun _ => fun
  | [d1, d2, d3] => { results := [.lit (.bool false)], args := [d1, d2, d3] }
  | _ => none }
def CompleteSmallWrongFalsely : Prop := completeSmallRow.holds Try.pinned (OpenSpec.ofChange completeSmallWrong)

/-- 'pagecachelaw35.CompleteOrder': WHATEVER THE INPUT: true; the input reads as it did. -/
def completeOrderSpec : ChangeSpec := { name := "completeOrder", fn := fun _ => fun
  | [d1, d2, d3] => { results := [.lit (.bool true)], args := [d1, d2, d3] }
  | _ => none }
def completeOrderRow : OpenClaim := { program := "ytppkbifhhpakgaa", sum := "c67c0072c5acf36655afd799be5583cfd6f7a839e3de7659fcb29f121cf2c633", func := "pagecache/pagecachelaw35.CompleteOrder", spec := "completeOrder", inPlace := ["internal/abi.NoEscape", "internal/bytealg.MakeNoZero"], apart := false }
def CompleteOrderSaid : Prop := completeOrderRow.holds Try.pinned (OpenSpec.ofChange completeOrderSpec)

/-- ITS FALSE NEIGHBOUR: 'it returns false'. Refute it at one input. -/
def completeOrderWrong : ChangeSpec := { name := "completeOrder", fn := fun _ => fun
  | [d1, d2, d3] => { results := [.lit (.bool false)], args := [d1, d2, d3] }
  | _ => none }
def CompleteOrderWrongFalsely : Prop := completeOrderRow.holds Try.pinned (OpenSpec.ofChange completeOrderWrong)

/-- 'pagecachelaw35.CompleteAnswers': WHATEVER THE INPUT: true; the input reads as it did. -/
def completeAnswersSpec : ChangeSpec := { name := "completeAnswers", fn := fun _ => fun
  | [d1, d2] => { results := [.lit (.bool true)], args := [d1, d2] }
  | _ => none }
def completeAnswersRow : OpenClaim := { program := "ytppkbifhhpakgaa", sum := "c67c0072c5acf36655afd799be5583cfd6f7a839e3de7659fcb29f121cf2c633", func := "pagecache/pagecachelaw35.CompleteAnswers", spec := "completeAnswers", inPlace := ["internal/abi.NoEscape", "internal/bytealg.MakeNoZero"], apart := false }
def CompleteAnswersSaid : Prop := completeAnswersRow.holds Try.pinned (OpenSpec.ofChange completeAnswersSpec)

/-- ITS FALSE NEIGHBOUR: 'it returns false'. Refute it at one input. -/
def completeAnswersWrong : ChangeSpec := { name := "completeAnswers", fn := fun _ => fun
  | [d1, d2] => { results := [.lit (.bool false)], args := [d1, d2] }
  | _ => none }
def CompleteAnswersWrongFalsely : Prop := completeAnswersRow.holds Try.pinned (OpenSpec.ofChange completeAnswersWrong)

/- THE SECOND FORM. 'bulk': how many values and letters a reading holds, each counted each time it is reached (what is shared counts as often as it is met; a slice's spare places count too). A statement '..UptoSaid' is the law's where the arguments, and the package variables that the reading takes, are together of bulk at most 1048576: NARROWER than '..Said'. Prove '..Said' where nothing that the law and all that it calls make is longer than what came in: it says more and counts as full. Else prove '..UptoSaid'. A law counts once. -/
mutual
def uptoBulk {H : Type} : DataW H → Nat
  | .lit (.string bytes) => bytes.length + 1
  | .lit _ => 1
  | .nil => 1
  | .ptr d => uptoBulk d + 1
  | .slice elems spare => uptoBulkAll elems + uptoBulkAll spare + 1
  | .agg parts => uptoBulkAll parts + 1
  | .iface _ d => uptoBulk d + 1
  | .map entries => uptoBulkEntries entries + 1
  | .held _ => 1
def uptoBulkAll {H : Type} : List (DataW H) → Nat
  | [] => 0
  | d :: r => uptoBulk d + uptoBulkAll r
def uptoBulkEntries {H : Type} : List (Lit × DataW H) → Nat
  | [] => 0
  | x :: r => uptoBulkEntry x + uptoBulkEntries r
def uptoBulkEntry {H : Type} : Lit × DataW H → Nat
  | (.string bytes, d) => bytes.length + uptoBulk d + 1
  | (_, d) => uptoBulk d + 1
 end
def uptoSmall : (H : Type) → List (DataW H) → Bool := fun _ ds => decide (uptoBulkAll ds ≤ 1048576)
def OpenSpec.upto (s : _root_.Go.ChangeSpec) : _root_.Go.OpenSpec := { _root_.Go.OpenSpec.ofChange s with cond := some uptoSmall }

/-- 'pagecachelaw35.CompleteExact', WHERE WHAT IT READS IS OF BULK AT MOST 1048576: true; the input reads as it did. -/
def completeExactUptoRow : OpenClaim := { program := "ytppkbifhhpakgaa", sum := "c67c0072c5acf36655afd799be5583cfd6f7a839e3de7659fcb29f121cf2c633", func := "pagecache/pagecachelaw35.CompleteExact", spec := "completeExact", inPlace := ["internal/abi.NoEscape", "internal/bytealg.MakeNoZero"], apart := false, narrowed := true }
def CompleteExactUptoSaid : Prop := completeExactUptoRow.holds Try.pinned (OpenSpec.upto completeExactSpec)

/-- 'pagecachelaw35.CompleteSmall', WHERE WHAT IT READS IS OF BULK AT MOST 1048576: true; the input reads as it did. -/
def completeSmallUptoRow : OpenClaim := { program := "ytppkbifhhpakgaa", sum := "c67c0072c5acf36655afd799be5583cfd6f7a839e3de7659fcb29f121cf2c633", func := "pagecache/pagecachelaw35.CompleteSmall", spec := "completeSmall", inPlace := ["internal/abi.NoEscape", "internal/bytealg.MakeNoZero"], apart := false, narrowed := true }
def CompleteSmallUptoSaid : Prop := completeSmallUptoRow.holds Try.pinned (OpenSpec.upto completeSmallSpec)

/-- 'pagecachelaw35.CompleteOrder', WHERE WHAT IT READS IS OF BULK AT MOST 1048576: true; the input reads as it did. -/
def completeOrderUptoRow : OpenClaim := { program := "ytppkbifhhpakgaa", sum := "c67c0072c5acf36655afd799be5583cfd6f7a839e3de7659fcb29f121cf2c633", func := "pagecache/pagecachelaw35.CompleteOrder", spec := "completeOrder", inPlace := ["internal/abi.NoEscape", "internal/bytealg.MakeNoZero"], apart := false, narrowed := true }
def CompleteOrderUptoSaid : Prop := completeOrderUptoRow.holds Try.pinned (OpenSpec.upto completeOrderSpec)

/-- 'pagecachelaw35.CompleteAnswers', WHERE WHAT IT READS IS OF BULK AT MOST 1048576: true; the input reads as it did. -/
def completeAnswersUptoRow : OpenClaim := { program := "ytppkbifhhpakgaa", sum := "c67c0072c5acf36655afd799be5583cfd6f7a839e3de7659fcb29f121cf2c633", func := "pagecache/pagecachelaw35.CompleteAnswers", spec := "completeAnswers", inPlace := ["internal/abi.NoEscape", "internal/bytealg.MakeNoZero"], apart := false, narrowed := true }
def CompleteAnswersUptoSaid : Prop := completeAnswersUptoRow.holds Try.pinned (OpenSpec.upto completeAnswersSpec)

end Rows
end Go.Proofs.Ytppkbifhhpakgaa
