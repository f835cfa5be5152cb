/- slices.Insert at areas: at the end; mapping an area. -/
import Derived.Test.YthfjlojikbgnfaaOw
namespace Go.Proofs.Ythfjlojikbgnfaa
open Go.ChangeShapes Go.WideShapes Go.ChangeAt Go.RowKit

/-- l with x put in at place i -/
def insAt (l : List Ar) (i : Nat) (x : Ar) : List Ar := l.take i ++ x :: l.drop i
/-- what slices.Insert answers: a row of the call's own with x put in -/
def InsPost (B : Nat) (v0 : Value) (l : List Ar) (i : Nat) (x : Ar) (w : World) (e : Ending) (w' : World) : Prop :=
  ∃ a c, e = .returned (.slice a (l.length + 1) c) ∧ w'.ownsRow B 40 11 (.slice a (l.length + 1) c) (l.length + 1) (flat (insAt l i x)) ∧ (∀ k, k < w.heap.size → some k ≠ v0.ownBlock → w'.heap[k]? = w.heap[k]?) ∧ Below B w w'

theorem insPost_of {B : Nat} {l : List Ar} {x : Ar} {v0 v' : Value} {w w' : World} (h : w'.ownsRow B 40 11 v' (l.length + 1) (flat l ++ x.cells)) (hg : w.grownBy w' v0.ownBlock)
    (ho : w.ownsRow B 40 11 v0 l.length (flat l)) (hB : B ≤ w.heap.size) : InsPost B v0 l l.length x w (.returned v') w' := by
  have he : flat l ++ x.cells = flat (l ++ [x]) := by rw [flat_append, flat_one]
  rw [he, show l.length + 1 = (l ++ [x]).length from by simp] at h
  obtain ⟨a, c, rfl, _, _, _⟩ := ARow.ofOwn h
  rw [show (l ++ [x]).length = l.length + 1 from by simp] at h ⊢
  refine ⟨a, c, rfl, ?_, hg.block, (Below.refl B w).grown hg hB (fun k hk => (ho.lt k hk).1)⟩
  rw [show insAt l l.length x = l ++ [x] from by simp [insAt]]
  exact h

set_option maxHeartbeats 2000000 in
theorem insert_end (B : Nat) (a : Option Addr) (cap : Nat) (l : List Ar) (x : Ar) (vb : Nat) (w : World) (ho : w.ownsRow B 40 11 (.slice a l.length cap) l.length (flat l)) (hB : B ≤ w.heap.size) (hl : l.length ≤ 100) (hv : w.rangeAt vb 0 x.cells) :
    Calls Try.prog 29 #[.slice a l.length cap, .int .i64 l.length, .slice (some ⟨vb, 0, none⟩) 1 1] w (InsPost B (.slice a l.length cap) l l.length x w) := by
  obtain ⟨i0, hi, hz0, hz1, hz2⟩ := info_parts area_info
  have hcap : (l.length : Int) ≤ cap := by
    rcases ho.2 with ⟨h, h2⟩ | ⟨g, c, cur, h, _, _, h3, _⟩
    · rw [h2]; omega
    · cases h; omega
  have HV5 : Hid (∀ j u, x.cells[j]? = some u → w.cell? ⟨vb, 0 + j, none⟩ = some u) := hv
  have HO := Lib.hid ho
  clear hv
  rcases ho.2 with ⟨hn, hn2⟩ | ⟨g, c', cur, hg, hg1, hg2, hg3, hg4, _⟩
  · simp only [Value.slice.injEq] at hn
    obtain ⟨rfl, _, rfl⟩ := hn
    have hl0 := List.length_eq_zero_iff.1 hn2
    subst hl0
    clear ho hcap hn2
    have HL : Hid (∃ L : List Ar, L = []) := ⟨[], rfl⟩
    go_enter Try.func29, Try.ntmps29
    go_wp2_with (at_builtin; refine wpList_append_own _ rfl _ _ 34 rfl B 40 i0 _ 11 112 Try.underlying34 hi hz0 hz1 hz2 rfl (by decide) _ _ _ rfl HO.out ⟨vb, 0, none⟩ 1 1 x.cells rfl rfl ?c1 ?c2 ?c3 ?c4 hB ?_)
    case c1 =>
      intro j u hj
      rw [Addr.add_lit]
      exact HV5.out j u hj
    case c2 =>
      exact oneC x
    case c3 => unfold maxLen; omega
    case c4 => omega
    intro v' w' hown' hgrow _
    have HP : Hid (InsPost B (.slice none 0 0) [] 0 x w (.returned v') w') := insPost_of hown' hgrow HO.out hB
    clear hown' hgrow
    go_wp2_with fail
    go_ret
    exact HP.out
  · cases hg
    have hc1 : l.length ≤ cap := hg3
    unfold maxLen at hg4
    have hc2 : (cap : Int) ≤ 9223372036854775807 := by omega
    clear ho hg1 hg2 hg4
    by_cases hcl : cap = l.length
    · subst hcl
      go_enter Try.func29, Try.ntmps29
      go_wp2_with (at_builtin; refine wpList_append_own _ rfl _ _ 34 rfl B 40 i0 _ 11 112 Try.underlying34 hi hz0 hz1 hz2 rfl (by decide) _ _ _ rfl HO.out ⟨vb, 0, none⟩ 1 1 x.cells rfl rfl ?c1 ?c2 ?c3 ?c4 hB ?_)
      case c1 =>
        intro j u hj
        rw [Addr.add_lit]
        exact HV5.out j u hj
      case c2 =>
        exact oneC x
      case c3 => unfold maxLen; omega
      case c4 => omega
      intro v' w' hown' hgrow _
      have HP : Hid (InsPost B (.slice (some ⟨g, 0, none⟩) l.length _) l l.length x w (.returned v') w') := insPost_of hown' hgrow HO.out hB
      clear hown' hgrow
      go_wp2_with fail
      go_ret
      exact HP.out
    · have hcl2 : l.length < cap := by omega
      go_enter Try.func29, Try.ntmps29
      go_wp2_with (at_builtin; refine wpList_append_own _ rfl _ _ 34 rfl B 40 i0 _ 11 112 Try.underlying34 hi hz0 hz1 hz2 rfl (by decide) _ _ _ rfl HO.out ⟨vb, 0, none⟩ 1 1 x.cells rfl rfl ?c1 ?c2 ?c3 ?c4 hB ?_)
      case c1 =>
        intro j u hj
        rw [Addr.add_lit]
        exact HV5.out j u hj
      case c2 =>
        exact oneC x
      case c3 => unfold maxLen; omega
      case c4 => omega
      intro v' w' hown' hgrow _
      have HP : Hid (InsPost B (.slice (some ⟨g, 0, none⟩) l.length _) l l.length x w (.returned v') w') := insPost_of hown' hgrow HO.out hB
      clear hown' hgrow
      go_wp2_with fail
      go_ret
      exact HP.out
end Go.Proofs.Ythfjlojikbgnfaa
