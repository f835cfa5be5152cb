/-
  No cell of these rows narrows 'for every input' (looked for: loops, veiled, ifaces, maps, wideKeys, modest, calm, conditions, laid).
  DERIVED. THE GIVEN ROWS OF THIS SEAT. 5 by the template 'for every input the law returns true; each argument reads behind the call as it read before'; 0 by the template 'total and deterministic' (their statements: YtebdnnfaghhpkaaTotals.lean).
  GIVEN WITH THE SEED: the statements are not yours to turn. If you find one false, say at which input.
  Laid BY PROGRAM, IN A SANDBOX (cutbox-rows.mjs): the forced cells as the released guide's own fill.sh prints them over the translation f7c6f45404f847f3… (all of the seat's roots in one cut). By AI agents, Wed Nov 11 2026. No macro, syntax, notation, axiom, sorry.
-/
import Derived.Test.YtebdnnfaghhpkaaChecked
import GoSem.Claim
import GoSem.ClaimJoined
import GoSem.ClaimMapViews
import Derived.JoinedTies
import Derived.KernelRfl
namespace Go.Proofs.Ytebdnnfaghhpkaa
/- THE CELL 'sum', in the pinned program and in every row, IS THE sha256 OF THE DUMP (.gsa) THAT YtebdnnfaghhpkaaProg.lean LOADS. Nothing in Lean hashes anything: it is a label: what it is worth is what the hold of that sum in a sandbox is worth. -/
noncomputable def Try.pinned : Pinned := { name := "ytebdnnfaghhpkaa", sum := "f7c6f45404f847f333495b02ee38b52b9144a969738f0b93b741ee80efe1b403", checked := Try.checked }
namespace Rows
def none {H : Type} : Left H := { results := [], args := [] }

/-- 'pagecachelaw39.ContentCalls': WHATEVER THE INPUT: true; the input reads as it did. -/
def contentCallsSpec : ChangeSpec := { name := "contentCalls", fn := fun _ => fun
  | [d] => { results := [.lit (.bool true)], args := [d] }
  | _ => none }
def contentCallsRow : OpenClaim := { program := "ytebdnnfaghhpkaa", sum := "f7c6f45404f847f333495b02ee38b52b9144a969738f0b93b741ee80efe1b403", func := "pagecache/pagecachelaw39.ContentCalls", spec := "contentCalls", inPlace := ["internal/abi.NoEscape", "internal/bytealg.MakeNoZero"], unfollowed := true, recurses := true, apart := false }
def ContentCallsSaid : Prop := contentCallsRow.holds Try.pinned (OpenSpec.ofChange contentCallsSpec)

/-- ITS FALSE NEIGHBOUR: 'it returns false'. Refute it at one input. -/
def contentCallsWrong : ChangeSpec := { name := "contentCalls", fn := fun _ => fun
  | [d] => { results := [.lit (.bool false)], args := [d] }
  | _ => none }
def ContentCallsWrongFalsely : Prop := contentCallsRow.holds Try.pinned (OpenSpec.ofChange contentCallsWrong)

/-- 'pagecachelaw39.ContentHistories': WHATEVER THE INPUT: true; the input reads as it did. -/
def contentHistoriesSpec : ChangeSpec := { name := "contentHistories", fn := fun _ => fun
  | [d] => { results := [.lit (.bool true)], args := [d] }
  | _ => none }
def contentHistoriesRow : OpenClaim := { program := "ytebdnnfaghhpkaa", sum := "f7c6f45404f847f333495b02ee38b52b9144a969738f0b93b741ee80efe1b403", func := "pagecache/pagecachelaw39.ContentHistories", spec := "contentHistories", inPlace := ["internal/abi.NoEscape", "internal/bytealg.MakeNoZero"], unfollowed := true, recurses := true, apart := false }
def ContentHistoriesSaid : Prop := contentHistoriesRow.holds Try.pinned (OpenSpec.ofChange contentHistoriesSpec)

/-- ITS FALSE NEIGHBOUR: 'it returns false'. Refute it at one input. -/
def contentHistoriesWrong : ChangeSpec := { name := "contentHistories", fn := fun _ => fun
  | [d] => { results := [.lit (.bool false)], args := [d] }
  | _ => none }
def ContentHistoriesWrongFalsely : Prop := contentHistoriesRow.holds Try.pinned (OpenSpec.ofChange contentHistoriesWrong)

/-- 'pagecachelaw39.ContentPermits': WHATEVER THE INPUT: true; the input reads as it did. -/
def contentPermitsSpec : ChangeSpec := { name := "contentPermits", fn := fun _ => fun
  | [d] => { results := [.lit (.bool true)], args := [d] }
  | _ => none }
def contentPermitsRow : OpenClaim := { program := "ytebdnnfaghhpkaa", sum := "f7c6f45404f847f333495b02ee38b52b9144a969738f0b93b741ee80efe1b403", func := "pagecache/pagecachelaw39.ContentPermits", spec := "contentPermits", inPlace := ["internal/abi.NoEscape", "internal/bytealg.MakeNoZero"], unfollowed := true, recurses := true, apart := false }
def ContentPermitsSaid : Prop := contentPermitsRow.holds Try.pinned (OpenSpec.ofChange contentPermitsSpec)

/-- ITS FALSE NEIGHBOUR: 'it returns false'. Refute it at one input. -/
def contentPermitsWrong : ChangeSpec := { name := "contentPermits", fn := fun _ => fun
  | [d] => { results := [.lit (.bool false)], args := [d] }
  | _ => none }
def ContentPermitsWrongFalsely : Prop := contentPermitsRow.holds Try.pinned (OpenSpec.ofChange contentPermitsWrong)

/-- 'pagecachelaw39.ContentLaws': WHATEVER THE INPUT: true; the input reads as it did. -/
def contentLawsSpec : ChangeSpec := { name := "contentLaws", fn := fun _ => fun
  | [d] => { results := [.lit (.bool true)], args := [d] }
  | _ => none }
def contentLawsRow : OpenClaim := { program := "ytebdnnfaghhpkaa", sum := "f7c6f45404f847f333495b02ee38b52b9144a969738f0b93b741ee80efe1b403", func := "pagecache/pagecachelaw39.ContentLaws", spec := "contentLaws", inPlace := ["internal/abi.NoEscape", "internal/bytealg.MakeNoZero"], unfollowed := true, recurses := true, apart := false }
def ContentLawsSaid : Prop := contentLawsRow.holds Try.pinned (OpenSpec.ofChange contentLawsSpec)

/-- ITS FALSE NEIGHBOUR: 'it returns false'. Refute it at one input. -/
def contentLawsWrong : ChangeSpec := { name := "contentLaws", fn := fun _ => fun
  | [d] => { results := [.lit (.bool false)], args := [d] }
  | _ => none }
def ContentLawsWrongFalsely : Prop := contentLawsRow.holds Try.pinned (OpenSpec.ofChange contentLawsWrong)

/-- 'pagecachelaw39.ContentApart': WHATEVER THE INPUT: true; the input reads as it did. -/
def contentApartSpec : ChangeSpec := { name := "contentApart", fn := fun _ => fun
  | [d] => { results := [.lit (.bool true)], args := [d] }
  | _ => none }
def contentApartRow : OpenClaim := { program := "ytebdnnfaghhpkaa", sum := "f7c6f45404f847f333495b02ee38b52b9144a969738f0b93b741ee80efe1b403", func := "pagecache/pagecachelaw39.ContentApart", spec := "contentApart", inPlace := ["internal/abi.NoEscape", "internal/bytealg.MakeNoZero"], unfollowed := true, recurses := true, apart := false }
def ContentApartSaid : Prop := contentApartRow.holds Try.pinned (OpenSpec.ofChange contentApartSpec)

/-- ITS FALSE NEIGHBOUR: 'it returns false'. Refute it at one input. -/
def contentApartWrong : ChangeSpec := { name := "contentApart", fn := fun _ => fun
  | [d] => { results := [.lit (.bool false)], args := [d] }
  | _ => none }
def ContentApartWrongFalsely : Prop := contentApartRow.holds Try.pinned (OpenSpec.ofChange contentApartWrong)

/- THE SECOND FORM. 'bulk': how many values and letters a reading holds, each counted each time it is reached (what is shared counts as often as it is met; a slice's spare places count too). A statement '..UptoSaid' is the law's where the arguments, and the package variables that the reading takes, are together of bulk at most 1048576: NARROWER than '..Said'. Prove '..Said' where nothing that the law and all that it calls make is longer than what came in: it says more and counts as full. Else prove '..UptoSaid'. A law counts once. -/
mutual
def uptoBulk {H : Type} : DataW H → Nat
  | .lit (.string bytes) => bytes.length + 1
  | .lit _ => 1
  | .nil => 1
  | .ptr d => uptoBulk d + 1
  | .slice elems spare => uptoBulkAll elems + uptoBulkAll spare + 1
  | .agg parts => uptoBulkAll parts + 1
  | .iface _ d => uptoBulk d + 1
  | .map entries => uptoBulkEntries entries + 1
  | .held _ => 1
def uptoBulkAll {H : Type} : List (DataW H) → Nat
  | [] => 0
  | d :: r => uptoBulk d + uptoBulkAll r
def uptoBulkEntries {H : Type} : List (Lit × DataW H) → Nat
  | [] => 0
  | x :: r => uptoBulkEntry x + uptoBulkEntries r
def uptoBulkEntry {H : Type} : Lit × DataW H → Nat
  | (.string bytes, d) => bytes.length + uptoBulk d + 1
  | (_, d) => uptoBulk d + 1
 end
def uptoSmall : (H : Type) → List (DataW H) → Bool := fun _ ds => decide (uptoBulkAll ds ≤ 1048576)
def OpenSpec.upto (s : _root_.Go.ChangeSpec) : _root_.Go.OpenSpec := { _root_.Go.OpenSpec.ofChange s with cond := some uptoSmall }

/-- 'pagecachelaw39.ContentCalls', WHERE WHAT IT READS IS OF BULK AT MOST 1048576: true; the input reads as it did. -/
def contentCallsUptoRow : OpenClaim := { program := "ytebdnnfaghhpkaa", sum := "f7c6f45404f847f333495b02ee38b52b9144a969738f0b93b741ee80efe1b403", func := "pagecache/pagecachelaw39.ContentCalls", spec := "contentCalls", inPlace := ["internal/abi.NoEscape", "internal/bytealg.MakeNoZero"], unfollowed := true, recurses := true, apart := false, narrowed := true }
def ContentCallsUptoSaid : Prop := contentCallsUptoRow.holds Try.pinned (OpenSpec.upto contentCallsSpec)

/-- 'pagecachelaw39.ContentHistories', WHERE WHAT IT READS IS OF BULK AT MOST 1048576: true; the input reads as it did. -/
def contentHistoriesUptoRow : OpenClaim := { program := "ytebdnnfaghhpkaa", sum := "f7c6f45404f847f333495b02ee38b52b9144a969738f0b93b741ee80efe1b403", func := "pagecache/pagecachelaw39.ContentHistories", spec := "contentHistories", inPlace := ["internal/abi.NoEscape", "internal/bytealg.MakeNoZero"], unfollowed := true, recurses := true, apart := false, narrowed := true }
def ContentHistoriesUptoSaid : Prop := contentHistoriesUptoRow.holds Try.pinned (OpenSpec.upto contentHistoriesSpec)

/-- 'pagecachelaw39.ContentPermits', WHERE WHAT IT READS IS OF BULK AT MOST 1048576: true; the input reads as it did. -/
def contentPermitsUptoRow : OpenClaim := { program := "ytebdnnfaghhpkaa", sum := "f7c6f45404f847f333495b02ee38b52b9144a969738f0b93b741ee80efe1b403", func := "pagecache/pagecachelaw39.ContentPermits", spec := "contentPermits", inPlace := ["internal/abi.NoEscape", "internal/bytealg.MakeNoZero"], unfollowed := true, recurses := true, apart := false, narrowed := true }
def ContentPermitsUptoSaid : Prop := contentPermitsUptoRow.holds Try.pinned (OpenSpec.upto contentPermitsSpec)

/-- 'pagecachelaw39.ContentLaws', WHERE WHAT IT READS IS OF BULK AT MOST 1048576: true; the input reads as it did. -/
def contentLawsUptoRow : OpenClaim := { program := "ytebdnnfaghhpkaa", sum := "f7c6f45404f847f333495b02ee38b52b9144a969738f0b93b741ee80efe1b403", func := "pagecache/pagecachelaw39.ContentLaws", spec := "contentLaws", inPlace := ["internal/abi.NoEscape", "internal/bytealg.MakeNoZero"], unfollowed := true, recurses := true, apart := false, narrowed := true }
def ContentLawsUptoSaid : Prop := contentLawsUptoRow.holds Try.pinned (OpenSpec.upto contentLawsSpec)

/-- 'pagecachelaw39.ContentApart', WHERE WHAT IT READS IS OF BULK AT MOST 1048576: true; the input reads as it did. -/
def contentApartUptoRow : OpenClaim := { program := "ytebdnnfaghhpkaa", sum := "f7c6f45404f847f333495b02ee38b52b9144a969738f0b93b741ee80efe1b403", func := "pagecache/pagecachelaw39.ContentApart", spec := "contentApart", inPlace := ["internal/abi.NoEscape", "internal/bytealg.MakeNoZero"], unfollowed := true, recurses := true, apart := false, narrowed := true }
def ContentApartUptoSaid : Prop := contentApartUptoRow.holds Try.pinned (OpenSpec.upto contentApartSpec)

end Rows
end Go.Proofs.Ytebdnnfaghhpkaa
