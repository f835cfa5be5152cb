/- A list behind another one: append(a, b...). -/
import Derived.Test.YthfjlojikbgnfaaSl
import Derived.Laws.AppendOwnNone
namespace Go.Proofs.Ythfjlojikbgnfaa
open Go.ChangeShapes Go.WideShapes Go.ChangeAt Go.RowKit

theorem append_all (w : World) (B : Nat) (a : Option Addr) (cap : Nat) (l : List Ar) (b : Option Addr) (cb : Nat) (m : List Ar) (ho : w.ownsRow B 40 11 (.slice a l.length cap) l.length (flat l)) (hr : ARow w b cb m) (hl : l.length ≤ 1000) (hm : m.length ≤ 1000) (hB : B ≤ w.heap.size) :
    ∃ a' c' w', (Builtin.append_ #[34, 34] 34 #[.slice a l.length cap, .slice b m.length cb]).run Try.prog w = .ok (.slice a' (l.length + m.length) c') w' ∧ w'.ownsRow B 40 11 (.slice a' (l.length + m.length) c') (l.length + m.length) (flat (l ++ m)) ∧ Below B w w' := by
  obtain ⟨i0, hi, hz0, hz1, hz2⟩ := info_parts area_info
  rcases hr with ⟨rfl, h0, rfl⟩ | ⟨g, o, rfl, _, h2, h3, h4⟩
  · have hm0 := List.length_eq_zero_iff.1 h0
    subst hm0
    have h := run_append_owned_none (P := Try.prog) (w := w) B 34 34 40 i0 11 Try.underlying34 hi _ _ _ ho
    refine ⟨a, cap, w, h, ?_, Below.refl _ _⟩
    rw [List.append_nil]
    exact ho
  · have hc : ∀ j u, (flat m)[j]? = some u → w.cell? ((⟨g, o, none⟩ : Addr).add j) = some u := fun j u hj => by rw [Addr.add_lit]; exact h4 j u hj
    obtain ⟨v', w', hrun, how, hg, _⟩ := run_append_own (P := Try.prog) w B 34 34 40 i0 _ 11 112 Try.underlying34 hi hz0 hz1 hz2 rfl (by decide) _ _ _ ho ⟨g, o, none⟩ m.length cb (flat m) (flat_len m) hc cells_one (by unfold maxLen; omega) (by omega) hB
    rw [← flat_append, show l.length + m.length = (l ++ m).length from by simp] at how
    obtain ⟨a', c', rfl, _, _, _⟩ := ARow.ofOwn how
    rw [show (l ++ m).length = l.length + m.length from by simp] at how hrun
    exact ⟨a', c', w', hrun, how, (Below.refl B w).grown hg hB (fun k hk => (ho.lt k hk).1)⟩
end Go.Proofs.Ythfjlojikbgnfaa
