/- A slice of integers that came in as an argument, as far as its length. -/
import Derived.Test.YtflcbefomjlgmaaKit
set_option linter.unusedSimpArgs false
set_option linter.unusedVariables false
namespace Go.Proofs.Ytflcbefomjlgmaa
open Go.ChangeShapes Go.WideShapes Go.ChangeAt Go.RowKit

/-- each element lies in an old block -/
def ArgRow (w : World) (a : Option Addr) (len : Nat) : Prop :=
  ∃ (b o : Nat) (zs : List Int), len ≤ zs.length ∧ ∀ k, k < len → a = some ⟨b, o, none⟩ ∧ b < w.heap.size ∧ w.cell? ⟨b, o + k, none⟩ = some (.int .i64 (zs.getD k 0))
theorem argRow_of {w : World} {a : Option Addr} {len cap : Nat} {zs : List Int} (h : (a = none ∧ len = 0 ∧ cap = 0 ∧ zs = []) ∨
    ∃ x, a = some x ∧ len ≤ cap ∧ cap ≤ maxLen ∧ zs.length = cap ∧ (∀ i, i < zs.length → w.cell? (x.add i) = some (.int .i64 (zs.getD i 0))) ∧ ∀ n ∈ zs, (Lit.int .i64 n).wf = true) : ArgRow w a len ∧ len ≤ maxLen := by
  rcases h with ⟨_, rfl, _, _⟩ | ⟨x, rfl, hl, hm, hz, hc, _⟩
  · exact ⟨⟨0, 0, [], Nat.le_refl _, fun k hk => absurd hk (by omega)⟩, Nat.zero_le _⟩
  · refine ⟨?_, Nat.le_trans hl hm⟩
    rcases Nat.eq_zero_or_pos zs.length with h0 | h0
    · exact ⟨0, 0, [], by simp; omega, fun k hk => absurd hk (by omega)⟩
    · obtain ⟨b, o, rfl, hc'⟩ := ints_at hc h0
      exact ⟨b, o, zs, by omega, fun k hk => ⟨rfl, World.block_lt_of_cell? _ _ (hc' k (by omega)), hc' k (by omega)⟩⟩
theorem ArgRow.at {w wr : World} {a : Option Addr} {len : Nat} (h : ArgRow w a len) (hb : Below w.heap.size w wr) (k : Nat) (hk : k < len) :
    ∃ b o z, a = some ⟨b, o, none⟩ ∧ b < w.heap.size ∧ wr.cell? ⟨b, o + k, none⟩ = some (.int .i64 z) := by
  obtain ⟨b, o, zs, _, hh⟩ := h
  obtain ⟨h1, h2, h3⟩ := hh k hk
  exact ⟨b, o, _, h1, h2, (hb.cell (p := ⟨b, o + k, none⟩) h2).trans h3⟩
end Go.Proofs.Ytflcbefomjlgmaa
