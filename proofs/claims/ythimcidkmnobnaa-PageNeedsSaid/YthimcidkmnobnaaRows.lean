/-
  No cell of these rows narrows 'for every input' (looked for: loops, veiled, ifaces, maps, wideKeys, modest, calm, conditions, laid).
  DERIVED. THE GIVEN ROWS OF THIS SEAT. 6 by the template 'for every input the law returns true; each argument reads behind the call as it read before'; 0 by the template 'total and deterministic' (their statements: YthimcidkmnobnaaTotals.lean).
  GIVEN WITH THE SEED: the statements are not yours to turn. If you find one false, say at which input.
  Laid BY PROGRAM, IN A SANDBOX (cutbox-rows.mjs): the forced cells as the released guide's own fill.sh prints them over the translation 69cd45a56bfe63fd… (all of the seat's roots in one cut). By AI agents, Wed Nov 11 2026. No macro, syntax, notation, axiom, sorry.
-/
import Derived.Test.YthimcidkmnobnaaChecked
import GoSem.Claim
import GoSem.ClaimJoined
import GoSem.ClaimMapViews
import Derived.JoinedTies
import Derived.KernelRfl
namespace Go.Proofs.Ythimcidkmnobnaa
/- THE CELL 'sum', in the pinned program and in every row, IS THE sha256 OF THE DUMP (.gsa) THAT YthimcidkmnobnaaProg.lean LOADS. Nothing in Lean hashes anything: it is a label: what it is worth is what the hold of that sum in a sandbox is worth. -/
noncomputable def Try.pinned : Pinned := { name := "ythimcidkmnobnaa", sum := "69cd45a56bfe63fdd344ee9a40fa4d016c2e6b603d0b8796417f096de5369b15", checked := Try.checked }
namespace Rows
def none {H : Type} : Left H := { results := [], args := [] }

/-- 'pagecachelaw02.PageReads': WHATEVER THE INPUT: true; the input reads as it did. -/
def pageReadsSpec : ChangeSpec := { name := "pageReads", fn := fun _ => fun
  | [d1, d2] => { results := [.lit (.bool true)], args := [d1, d2] }
  | _ => none }
def pageReadsRow : OpenClaim := { program := "ythimcidkmnobnaa", sum := "69cd45a56bfe63fdd344ee9a40fa4d016c2e6b603d0b8796417f096de5369b15", func := "pagecache/pagecachelaw02.PageReads", spec := "pageReads", inPlace := ["internal/abi.NoEscape", "internal/bytealg.MakeNoZero"], apart := false }
def PageReadsSaid : Prop := pageReadsRow.holds Try.pinned (OpenSpec.ofChange pageReadsSpec)

/-- ITS FALSE NEIGHBOUR: 'it returns false'. Refute it at one input. -/
def pageReadsWrong : ChangeSpec := { name := "pageReads", fn := fun _ => fun
  | [d1, d2] => { results := [.lit (.bool false)], args := [d1, d2] }
  | _ => none }
def PageReadsWrongFalsely : Prop := pageReadsRow.holds Try.pinned (OpenSpec.ofChange pageReadsWrong)

/-- 'pagecachelaw02.PageWrites': WHATEVER THE INPUT: true; the input reads as it did. -/
def pageWritesSpec : ChangeSpec := { name := "pageWrites", fn := fun _ => fun
  | [d] => { results := [.lit (.bool true)], args := [d] }
  | _ => none }
def pageWritesRow : OpenClaim := { program := "ythimcidkmnobnaa", sum := "69cd45a56bfe63fdd344ee9a40fa4d016c2e6b603d0b8796417f096de5369b15", func := "pagecache/pagecachelaw02.PageWrites", spec := "pageWrites", inPlace := ["internal/abi.NoEscape", "internal/bytealg.MakeNoZero"], apart := false }
def PageWritesSaid : Prop := pageWritesRow.holds Try.pinned (OpenSpec.ofChange pageWritesSpec)

/-- ITS FALSE NEIGHBOUR: 'it returns false'. Refute it at one input. -/
def pageWritesWrong : ChangeSpec := { name := "pageWrites", fn := fun _ => fun
  | [d] => { results := [.lit (.bool false)], args := [d] }
  | _ => none }
def PageWritesWrongFalsely : Prop := pageWritesRow.holds Try.pinned (OpenSpec.ofChange pageWritesWrong)

/-- 'pagecachelaw02.PageHistory': WHATEVER THE INPUT: true; the input reads as it did. -/
def pageHistorySpec : ChangeSpec := { name := "pageHistory", fn := fun _ => fun
  | [d] => { results := [.lit (.bool true)], args := [d] }
  | _ => none }
def pageHistoryRow : OpenClaim := { program := "ythimcidkmnobnaa", sum := "69cd45a56bfe63fdd344ee9a40fa4d016c2e6b603d0b8796417f096de5369b15", func := "pagecache/pagecachelaw02.PageHistory", spec := "pageHistory", inPlace := ["internal/abi.NoEscape", "internal/bytealg.MakeNoZero"], apart := false }
def PageHistorySaid : Prop := pageHistoryRow.holds Try.pinned (OpenSpec.ofChange pageHistorySpec)

/-- ITS FALSE NEIGHBOUR: 'it returns false'. Refute it at one input. -/
def pageHistoryWrong : ChangeSpec := { name := "pageHistory", fn := fun _ => fun
  | [d] => { results := [.lit (.bool false)], args := [d] }
  | _ => none }
def PageHistoryWrongFalsely : Prop := pageHistoryRow.holds Try.pinned (OpenSpec.ofChange pageHistoryWrong)

/-- 'pagecachelaw02.PageDirty': WHATEVER THE INPUT: true; the input reads as it did. -/
def pageDirtySpec : ChangeSpec := { name := "pageDirty", fn := fun _ => fun
  | [d] => { results := [.lit (.bool true)], args := [d] }
  | _ => none }
def pageDirtyRow : OpenClaim := { program := "ythimcidkmnobnaa", sum := "69cd45a56bfe63fdd344ee9a40fa4d016c2e6b603d0b8796417f096de5369b15", func := "pagecache/pagecachelaw02.PageDirty", spec := "pageDirty", inPlace := ["internal/abi.NoEscape", "internal/bytealg.MakeNoZero"], apart := false }
def PageDirtySaid : Prop := pageDirtyRow.holds Try.pinned (OpenSpec.ofChange pageDirtySpec)

/-- ITS FALSE NEIGHBOUR: 'it returns false'. Refute it at one input. -/
def pageDirtyWrong : ChangeSpec := { name := "pageDirty", fn := fun _ => fun
  | [d] => { results := [.lit (.bool false)], args := [d] }
  | _ => none }
def PageDirtyWrongFalsely : Prop := pageDirtyRow.holds Try.pinned (OpenSpec.ofChange pageDirtyWrong)

/-- 'pagecachelaw02.PageExchange': WHATEVER THE INPUT: true; the input reads as it did. -/
def pageExchangeSpec : ChangeSpec := { name := "pageExchange", fn := fun _ => fun
  | [d] => { results := [.lit (.bool true)], args := [d] }
  | _ => none }
def pageExchangeRow : OpenClaim := { program := "ythimcidkmnobnaa", sum := "69cd45a56bfe63fdd344ee9a40fa4d016c2e6b603d0b8796417f096de5369b15", func := "pagecache/pagecachelaw02.PageExchange", spec := "pageExchange", inPlace := ["internal/abi.NoEscape", "internal/bytealg.MakeNoZero"], apart := false }
def PageExchangeSaid : Prop := pageExchangeRow.holds Try.pinned (OpenSpec.ofChange pageExchangeSpec)

/-- ITS FALSE NEIGHBOUR: 'it returns false'. Refute it at one input. -/
def pageExchangeWrong : ChangeSpec := { name := "pageExchange", fn := fun _ => fun
  | [d] => { results := [.lit (.bool false)], args := [d] }
  | _ => none }
def PageExchangeWrongFalsely : Prop := pageExchangeRow.holds Try.pinned (OpenSpec.ofChange pageExchangeWrong)

/-- 'pagecachelaw02.PageNeeds': WHATEVER THE INPUT: true; the input reads as it did. -/
def pageNeedsSpec : ChangeSpec := { name := "pageNeeds", fn := fun _ => fun
  | [d1, d2] => { results := [.lit (.bool true)], args := [d1, d2] }
  | _ => none }
def pageNeedsRow : OpenClaim := { program := "ythimcidkmnobnaa", sum := "69cd45a56bfe63fdd344ee9a40fa4d016c2e6b603d0b8796417f096de5369b15", func := "pagecache/pagecachelaw02.PageNeeds", spec := "pageNeeds", inPlace := ["internal/abi.NoEscape", "internal/bytealg.MakeNoZero"], apart := false }
def PageNeedsSaid : Prop := pageNeedsRow.holds Try.pinned (OpenSpec.ofChange pageNeedsSpec)

/-- ITS FALSE NEIGHBOUR: 'it returns false'. Refute it at one input. -/
def pageNeedsWrong : ChangeSpec := { name := "pageNeeds", fn := fun _ => fun
  | [d1, d2] => { results := [.lit (.bool false)], args := [d1, d2] }
  | _ => none }
def PageNeedsWrongFalsely : Prop := pageNeedsRow.holds Try.pinned (OpenSpec.ofChange pageNeedsWrong)

/- THE SECOND FORM. 'bulk': how many values and letters a reading holds, each counted each time it is reached (what is shared counts as often as it is met; a slice's spare places count too). A statement '..UptoSaid' is the law's where the arguments, and the package variables that the reading takes, are together of bulk at most 1048576: NARROWER than '..Said'. Prove '..Said' where nothing that the law and all that it calls make is longer than what came in: it says more and counts as full. Else prove '..UptoSaid'. A law counts once. -/
mutual
def uptoBulk {H : Type} : DataW H → Nat
  | .lit (.string bytes) => bytes.length + 1
  | .lit _ => 1
  | .nil => 1
  | .ptr d => uptoBulk d + 1
  | .slice elems spare => uptoBulkAll elems + uptoBulkAll spare + 1
  | .agg parts => uptoBulkAll parts + 1
  | .iface _ d => uptoBulk d + 1
  | .map entries => uptoBulkEntries entries + 1
  | .held _ => 1
def uptoBulkAll {H : Type} : List (DataW H) → Nat
  | [] => 0
  | d :: r => uptoBulk d + uptoBulkAll r
def uptoBulkEntries {H : Type} : List (Lit × DataW H) → Nat
  | [] => 0
  | x :: r => uptoBulkEntry x + uptoBulkEntries r
def uptoBulkEntry {H : Type} : Lit × DataW H → Nat
  | (.string bytes, d) => bytes.length + uptoBulk d + 1
  | (_, d) => uptoBulk d + 1
 end
def uptoSmall : (H : Type) → List (DataW H) → Bool := fun _ ds => decide (uptoBulkAll ds ≤ 1048576)
def OpenSpec.upto (s : _root_.Go.ChangeSpec) : _root_.Go.OpenSpec := { _root_.Go.OpenSpec.ofChange s with cond := some uptoSmall }

/-- 'pagecachelaw02.PageReads', WHERE WHAT IT READS IS OF BULK AT MOST 1048576: true; the input reads as it did. -/
def pageReadsUptoRow : OpenClaim := { program := "ythimcidkmnobnaa", sum := "69cd45a56bfe63fdd344ee9a40fa4d016c2e6b603d0b8796417f096de5369b15", func := "pagecache/pagecachelaw02.PageReads", spec := "pageReads", inPlace := ["internal/abi.NoEscape", "internal/bytealg.MakeNoZero"], apart := false, narrowed := true }
def PageReadsUptoSaid : Prop := pageReadsUptoRow.holds Try.pinned (OpenSpec.upto pageReadsSpec)

/-- 'pagecachelaw02.PageWrites', WHERE WHAT IT READS IS OF BULK AT MOST 1048576: true; the input reads as it did. -/
def pageWritesUptoRow : OpenClaim := { program := "ythimcidkmnobnaa", sum := "69cd45a56bfe63fdd344ee9a40fa4d016c2e6b603d0b8796417f096de5369b15", func := "pagecache/pagecachelaw02.PageWrites", spec := "pageWrites", inPlace := ["internal/abi.NoEscape", "internal/bytealg.MakeNoZero"], apart := false, narrowed := true }
def PageWritesUptoSaid : Prop := pageWritesUptoRow.holds Try.pinned (OpenSpec.upto pageWritesSpec)

/-- 'pagecachelaw02.PageHistory', WHERE WHAT IT READS IS OF BULK AT MOST 1048576: true; the input reads as it did. -/
def pageHistoryUptoRow : OpenClaim := { program := "ythimcidkmnobnaa", sum := "69cd45a56bfe63fdd344ee9a40fa4d016c2e6b603d0b8796417f096de5369b15", func := "pagecache/pagecachelaw02.PageHistory", spec := "pageHistory", inPlace := ["internal/abi.NoEscape", "internal/bytealg.MakeNoZero"], apart := false, narrowed := true }
def PageHistoryUptoSaid : Prop := pageHistoryUptoRow.holds Try.pinned (OpenSpec.upto pageHistorySpec)

/-- 'pagecachelaw02.PageDirty', WHERE WHAT IT READS IS OF BULK AT MOST 1048576: true; the input reads as it did. -/
def pageDirtyUptoRow : OpenClaim := { program := "ythimcidkmnobnaa", sum := "69cd45a56bfe63fdd344ee9a40fa4d016c2e6b603d0b8796417f096de5369b15", func := "pagecache/pagecachelaw02.PageDirty", spec := "pageDirty", inPlace := ["internal/abi.NoEscape", "internal/bytealg.MakeNoZero"], apart := false, narrowed := true }
def PageDirtyUptoSaid : Prop := pageDirtyUptoRow.holds Try.pinned (OpenSpec.upto pageDirtySpec)

/-- 'pagecachelaw02.PageExchange', WHERE WHAT IT READS IS OF BULK AT MOST 1048576: true; the input reads as it did. -/
def pageExchangeUptoRow : OpenClaim := { program := "ythimcidkmnobnaa", sum := "69cd45a56bfe63fdd344ee9a40fa4d016c2e6b603d0b8796417f096de5369b15", func := "pagecache/pagecachelaw02.PageExchange", spec := "pageExchange", inPlace := ["internal/abi.NoEscape", "internal/bytealg.MakeNoZero"], apart := false, narrowed := true }
def PageExchangeUptoSaid : Prop := pageExchangeUptoRow.holds Try.pinned (OpenSpec.upto pageExchangeSpec)

/-- 'pagecachelaw02.PageNeeds', WHERE WHAT IT READS IS OF BULK AT MOST 1048576: true; the input reads as it did. -/
def pageNeedsUptoRow : OpenClaim := { program := "ythimcidkmnobnaa", sum := "69cd45a56bfe63fdd344ee9a40fa4d016c2e6b603d0b8796417f096de5369b15", func := "pagecache/pagecachelaw02.PageNeeds", spec := "pageNeeds", inPlace := ["internal/abi.NoEscape", "internal/bytealg.MakeNoZero"], apart := false, narrowed := true }
def PageNeedsUptoSaid : Prop := pageNeedsUptoRow.holds Try.pinned (OpenSpec.upto pageNeedsSpec)

end Rows
end Go.Proofs.Ythimcidkmnobnaa
