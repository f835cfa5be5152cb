/-
  No cell of these rows narrows 'for every input' (looked for: loops, veiled, ifaces, maps, wideKeys, modest, calm, conditions, laid).
  DERIVED. THE GIVEN ROWS OF THIS SEAT. 5 by the template 'for every input the law returns true; each argument reads behind the call as it read before'; 0 by the template 'total and deterministic' (their statements: YthfjlojikbgnfaaTotals.lean).
  GIVEN WITH THE SEED: the statements are not yours to turn. If you find one false, say at which input.
  Laid BY PROGRAM, IN A SANDBOX (cutbox-rows.mjs): the forced cells as the released guide's own fill.sh prints them over the translation 8565d1f80d997b6c… (all of the seat's roots in one cut). By AI agents, Wed Nov 11 2026. No macro, syntax, notation, axiom, sorry.
-/
import Derived.Test.YthfjlojikbgnfaaChecked
import GoSem.Claim
import GoSem.ClaimJoined
import GoSem.ClaimMapViews
import Derived.JoinedTies
import Derived.KernelRfl
namespace Go.Proofs.Ythfjlojikbgnfaa
/- THE CELL 'sum', in the pinned program and in every row, IS THE sha256 OF THE DUMP (.gsa) THAT YthfjlojikbgnfaaProg.lean LOADS. Nothing in Lean hashes anything: it is a label: what it is worth is what the hold of that sum in a sandbox is worth. -/
noncomputable def Try.pinned : Pinned := { name := "ythfjlojikbgnfaa", sum := "8565d1f80d997b6c13e58b25a4fe502735c164277bb069b117bb018a269efc62", checked := Try.checked }
namespace Rows
def none {H : Type} : Left H := { results := [], args := [] }

/-- 'pagecachelaw29.RetryPolicies': WHATEVER THE INPUT: true; the input reads as it did. -/
def retryPoliciesSpec : ChangeSpec := { name := "retryPolicies", fn := fun _ => fun
  | [d1, d2, d3] => { results := [.lit (.bool true)], args := [d1, d2, d3] }
  | _ => none }
def retryPoliciesRow : OpenClaim := { program := "ythfjlojikbgnfaa", sum := "8565d1f80d997b6c13e58b25a4fe502735c164277bb069b117bb018a269efc62", func := "pagecache/pagecachelaw29.RetryPolicies", spec := "retryPolicies", apart := false }
def RetryPoliciesSaid : Prop := retryPoliciesRow.holds Try.pinned (OpenSpec.ofChange retryPoliciesSpec)

/-- ITS FALSE NEIGHBOUR: 'it returns false'. Refute it at one input. -/
def retryPoliciesWrong : ChangeSpec := { name := "retryPolicies", fn := fun _ => fun
  | [d1, d2, d3] => { results := [.lit (.bool false)], args := [d1, d2, d3] }
  | _ => none }
def RetryPoliciesWrongFalsely : Prop := retryPoliciesRow.holds Try.pinned (OpenSpec.ofChange retryPoliciesWrong)

/-- 'pagecachelaw29.RetryTotal': WHATEVER THE INPUT: true; the input reads as it did. -/
def retryTotalSpec : ChangeSpec := { name := "retryTotal", fn := fun _ => fun
  | [d1, d2] => { results := [.lit (.bool true)], args := [d1, d2] }
  | _ => none }
def retryTotalRow : OpenClaim := { program := "ythfjlojikbgnfaa", sum := "8565d1f80d997b6c13e58b25a4fe502735c164277bb069b117bb018a269efc62", func := "pagecache/pagecachelaw29.RetryTotal", spec := "retryTotal", apart := false }
def RetryTotalSaid : Prop := retryTotalRow.holds Try.pinned (OpenSpec.ofChange retryTotalSpec)

/-- ITS FALSE NEIGHBOUR: 'it returns false'. Refute it at one input. -/
def retryTotalWrong : ChangeSpec := { name := "retryTotal", fn := fun _ => fun
  | [d1, d2] => { results := [.lit (.bool false)], args := [d1, d2] }
  | _ => none }
def RetryTotalWrongFalsely : Prop := retryTotalRow.holds Try.pinned (OpenSpec.ofChange retryTotalWrong)

/-- 'pagecachelaw29.RetryOrders': WHATEVER THE INPUT: true; the input reads as it did. -/
def retryOrdersSpec : ChangeSpec := { name := "retryOrders", fn := fun _ => fun
  | [d1, d2] => { results := [.lit (.bool true)], args := [d1, d2] }
  | _ => none }
def retryOrdersRow : OpenClaim := { program := "ythfjlojikbgnfaa", sum := "8565d1f80d997b6c13e58b25a4fe502735c164277bb069b117bb018a269efc62", func := "pagecache/pagecachelaw29.RetryOrders", spec := "retryOrders", inPlace := ["slices.overlaps[pagecache/api.Later]"], unfollowed := true, recurses := true, apart := false }
def RetryOrdersSaid : Prop := retryOrdersRow.holds Try.pinned (OpenSpec.ofChange retryOrdersSpec)

/-- ITS FALSE NEIGHBOUR: 'it returns false'. Refute it at one input. -/
def retryOrdersWrong : ChangeSpec := { name := "retryOrders", fn := fun _ => fun
  | [d1, d2] => { results := [.lit (.bool false)], args := [d1, d2] }
  | _ => none }
def RetryOrdersWrongFalsely : Prop := retryOrdersRow.holds Try.pinned (OpenSpec.ofChange retryOrdersWrong)

/-- 'pagecachelaw29.RetryExact': WHATEVER THE INPUT: true; the input reads as it did. -/
def retryExactSpec : ChangeSpec := { name := "retryExact", fn := fun _ => fun
  | [d1, d2, d3, d4, d5, d6] => { results := [.lit (.bool true)], args := [d1, d2, d3, d4, d5, d6] }
  | _ => none }
def retryExactRow : OpenClaim := { program := "ythfjlojikbgnfaa", sum := "8565d1f80d997b6c13e58b25a4fe502735c164277bb069b117bb018a269efc62", func := "pagecache/pagecachelaw29.RetryExact", spec := "retryExact", inPlace := ["slices.overlaps[pagecache/api.Later]"], unfollowed := true, recurses := true, apart := false }
def RetryExactSaid : Prop := retryExactRow.holds Try.pinned (OpenSpec.ofChange retryExactSpec)

/-- ITS FALSE NEIGHBOUR: 'it returns false'. Refute it at one input. -/
def retryExactWrong : ChangeSpec := { name := "retryExact", fn := fun _ => fun
  | [d1, d2, d3, d4, d5, d6] => { results := [.lit (.bool false)], args := [d1, d2, d3, d4, d5, d6] }
  | _ => none }
def RetryExactWrongFalsely : Prop := retryExactRow.holds Try.pinned (OpenSpec.ofChange retryExactWrong)

/-- 'pagecachelaw29.RetryNext': WHATEVER THE INPUT: true; the input reads as it did. -/
def retryNextSpec : ChangeSpec := { name := "retryNext", fn := fun _ => fun
  | [d] => { results := [.lit (.bool true)], args := [d] }
  | _ => none }
def retryNextRow : OpenClaim := { program := "ythfjlojikbgnfaa", sum := "8565d1f80d997b6c13e58b25a4fe502735c164277bb069b117bb018a269efc62", func := "pagecache/pagecachelaw29.RetryNext", spec := "retryNext", inPlace := ["slices.overlaps[pagecache/api.Later]"], unfollowed := true, recurses := true, apart := false }
def RetryNextSaid : Prop := retryNextRow.holds Try.pinned (OpenSpec.ofChange retryNextSpec)

/-- ITS FALSE NEIGHBOUR: 'it returns false'. Refute it at one input. -/
def retryNextWrong : ChangeSpec := { name := "retryNext", fn := fun _ => fun
  | [d] => { results := [.lit (.bool false)], args := [d] }
  | _ => none }
def RetryNextWrongFalsely : Prop := retryNextRow.holds Try.pinned (OpenSpec.ofChange retryNextWrong)

/- THE SECOND FORM. 'bulk': how many values and letters a reading holds, each counted each time it is reached (what is shared counts as often as it is met; a slice's spare places count too). A statement '..UptoSaid' is the law's where the arguments, and the package variables that the reading takes, are together of bulk at most 1048576: NARROWER than '..Said'. Prove '..Said' where nothing that the law and all that it calls make is longer than what came in: it says more and counts as full. Else prove '..UptoSaid'. A law counts once. -/
mutual
def uptoBulk {H : Type} : DataW H → Nat
  | .lit (.string bytes) => bytes.length + 1
  | .lit _ => 1
  | .nil => 1
  | .ptr d => uptoBulk d + 1
  | .slice elems spare => uptoBulkAll elems + uptoBulkAll spare + 1
  | .agg parts => uptoBulkAll parts + 1
  | .iface _ d => uptoBulk d + 1
  | .map entries => uptoBulkEntries entries + 1
  | .held _ => 1
def uptoBulkAll {H : Type} : List (DataW H) → Nat
  | [] => 0
  | d :: r => uptoBulk d + uptoBulkAll r
def uptoBulkEntries {H : Type} : List (Lit × DataW H) → Nat
  | [] => 0
  | x :: r => uptoBulkEntry x + uptoBulkEntries r
def uptoBulkEntry {H : Type} : Lit × DataW H → Nat
  | (.string bytes, d) => bytes.length + uptoBulk d + 1
  | (_, d) => uptoBulk d + 1
 end
def uptoSmall : (H : Type) → List (DataW H) → Bool := fun _ ds => decide (uptoBulkAll ds ≤ 1048576)
def OpenSpec.upto (s : _root_.Go.ChangeSpec) : _root_.Go.OpenSpec := { _root_.Go.OpenSpec.ofChange s with cond := some uptoSmall }

/-- 'pagecachelaw29.RetryPolicies', WHERE WHAT IT READS IS OF BULK AT MOST 1048576: true; the input reads as it did. -/
def retryPoliciesUptoRow : OpenClaim := { program := "ythfjlojikbgnfaa", sum := "8565d1f80d997b6c13e58b25a4fe502735c164277bb069b117bb018a269efc62", func := "pagecache/pagecachelaw29.RetryPolicies", spec := "retryPolicies", apart := false, narrowed := true }
def RetryPoliciesUptoSaid : Prop := retryPoliciesUptoRow.holds Try.pinned (OpenSpec.upto retryPoliciesSpec)

/-- 'pagecachelaw29.RetryTotal', WHERE WHAT IT READS IS OF BULK AT MOST 1048576: true; the input reads as it did. -/
def retryTotalUptoRow : OpenClaim := { program := "ythfjlojikbgnfaa", sum := "8565d1f80d997b6c13e58b25a4fe502735c164277bb069b117bb018a269efc62", func := "pagecache/pagecachelaw29.RetryTotal", spec := "retryTotal", apart := false, narrowed := true }
def RetryTotalUptoSaid : Prop := retryTotalUptoRow.holds Try.pinned (OpenSpec.upto retryTotalSpec)

/-- 'pagecachelaw29.RetryOrders', WHERE WHAT IT READS IS OF BULK AT MOST 1048576: true; the input reads as it did. -/
def retryOrdersUptoRow : OpenClaim := { program := "ythfjlojikbgnfaa", sum := "8565d1f80d997b6c13e58b25a4fe502735c164277bb069b117bb018a269efc62", func := "pagecache/pagecachelaw29.RetryOrders", spec := "retryOrders", inPlace := ["slices.overlaps[pagecache/api.Later]"], unfollowed := true, recurses := true, apart := false, narrowed := true }
def RetryOrdersUptoSaid : Prop := retryOrdersUptoRow.holds Try.pinned (OpenSpec.upto retryOrdersSpec)

/-- 'pagecachelaw29.RetryExact', WHERE WHAT IT READS IS OF BULK AT MOST 1048576: true; the input reads as it did. -/
def retryExactUptoRow : OpenClaim := { program := "ythfjlojikbgnfaa", sum := "8565d1f80d997b6c13e58b25a4fe502735c164277bb069b117bb018a269efc62", func := "pagecache/pagecachelaw29.RetryExact", spec := "retryExact", inPlace := ["slices.overlaps[pagecache/api.Later]"], unfollowed := true, recurses := true, apart := false, narrowed := true }
def RetryExactUptoSaid : Prop := retryExactUptoRow.holds Try.pinned (OpenSpec.upto retryExactSpec)

/-- 'pagecachelaw29.RetryNext', WHERE WHAT IT READS IS OF BULK AT MOST 1048576: true; the input reads as it did. -/
def retryNextUptoRow : OpenClaim := { program := "ythfjlojikbgnfaa", sum := "8565d1f80d997b6c13e58b25a4fe502735c164277bb069b117bb018a269efc62", func := "pagecache/pagecachelaw29.RetryNext", spec := "retryNext", inPlace := ["slices.overlaps[pagecache/api.Later]"], unfollowed := true, recurses := true, apart := false, narrowed := true }
def RetryNextUptoSaid : Prop := retryNextUptoRow.holds Try.pinned (OpenSpec.upto retryNextSpec)

end Rows
end Go.Proofs.Ythfjlojikbgnfaa
