/- slices.Insert at areas: at the end; mapping an area. -/
import Derived.Test.YtodonnagmgbliaaCl
namespace Go.Proofs.Ytodonnagmgbliaa
open Go.ChangeShapes Go.WideShapes Go.ChangeAt Go.RowKit

/-- l with x put in at place i -/
def insAt (l : List Ar) (i : Nat) (x : Ar) : List Ar := l.take i ++ x :: l.drop i
/-- what slices.Insert answers: a row of the call's own with x put in -/
def InsPost (B : Nat) (l : List Ar) (i : Nat) (x : Ar) (w : World) (e : Ending) (w' : World) : Prop :=
  ∃ a c, e = .returned (.slice a (l.length + 1) c) ∧ w'.ownsRow B 30 5 (.slice a (l.length + 1) c) (l.length + 1) (flat (insAt l i x)) ∧ Below B w w'

theorem insPost_of {B : Nat} {l : List Ar} {x : Ar} {v0 v' : Value} {w w' : World} (h : w'.ownsRow B 30 5 v' (l.length + 1) (flat l ++ [.int .i64 x.pr, .int .i64 x.pa, .int .i64 x.fr, .bool x.wr, .bool x.ac])) (hg : w.grownBy w' v0.ownBlock)
    (ho : w.ownsRow B 30 5 v0 l.length (flat l)) (hB : B ≤ w.heap.size) : InsPost B l l.length x w (.returned v') w' := by
  have he : flat l ++ [.int .i64 x.pr, .int .i64 x.pa, .int .i64 x.fr, .bool x.wr, .bool x.ac] = flat (l ++ [x]) := by rw [flat_append, flat_one]; rfl
  rw [he, show l.length + 1 = (l ++ [x]).length from by simp] at h
  obtain ⟨a, c, rfl, _, _⟩ := ARow.ofOwn h
  rw [show (l ++ [x]).length = l.length + 1 from by simp] at h ⊢
  refine ⟨a, c, rfl, ?_, (Below.refl B w).grown hg hB (fun k hk => (ho.lt k hk).1)⟩
  rw [show insAt l l.length x = l ++ [x] from by simp [insAt]]
  exact h

set_option maxHeartbeats 2000000 in
theorem insert_end (B : Nat) (a : Option Addr) (cap : Nat) (l : List Ar) (x : Ar) (vb : Nat) (w : World) (ho : w.ownsRow B 30 5 (.slice a l.length cap) l.length (flat l)) (hB : B ≤ w.heap.size) (hl : l.length ≤ 100) (hv : Cel w vb 0 x) :
    Calls Try.prog 35 #[.slice a l.length cap, .int .i64 l.length, .slice (some ⟨vb, 0, none⟩) 1 1] w (InsPost B l l.length x w) := by
  obtain ⟨i0, hi, hz0, hz1, hz2⟩ := info_parts area_info
  have hcap : (l.length : Int) ≤ cap := by
    rcases ho.2 with ⟨h, h2⟩ | ⟨g, c, cur, h, _, _, h3, _⟩
    · rw [h2]; omega
    · cases h; omega
  obtain ⟨s, c, f, p, b⟩ := x
  have HV5 : Hid (∀ j u, [Value.int .i64 s, .int .i64 c, .int .i64 f, .bool p, .bool b][j]? = some u → w.cell? ⟨vb, 0 + j, none⟩ = some u) := by
    intro j u hj
    have hj5 : j < 5 := by simpa using (List.getElem?_eq_some_iff.1 hj).1
    have h5 : j = 0 ∨ j = 1 ∨ j = 2 ∨ j = 3 ∨ j = 4 := by omega
    rcases h5 with rfl | rfl | rfl | rfl | rfl <;> simp at hj <;> subst hj
    · exact hv.c0
    · exact hv.c1
    · exact hv.c2
    · exact hv.c3
    · exact hv.c4
  have HO := Lib.hid ho
  clear hv
  rcases ho.2 with ⟨hn, hn2⟩ | ⟨g, c', cur, hg, hg1, hg2, hg3, hg4, _⟩
  · simp only [Value.slice.injEq] at hn
    obtain ⟨rfl, _, rfl⟩ := hn
    have hl0 := List.length_eq_zero_iff.1 hn2
    subst hl0
    clear ho hcap hn2
    have HL : Hid (∃ L : List Ar, L = []) := ⟨[], rfl⟩
    go_enter Try.func35, Try.ntmps35
    go_wp2_with (at_builtin; refine wpList_append_own _ rfl _ _ 26 rfl B 30 i0 _ 5 32 Try.underlying26 hi hz0 hz1 hz2 rfl (by decide) _ _ _ rfl HO.out ⟨vb, 0, none⟩ 1 1 [.int .i64 s, .int .i64 c, .int .i64 f, .bool p, .bool b] rfl rfl ?c1 ?c2 ?c3 ?c4 hB ?_)
    case c1 =>
      intro j u hj
      rw [Addr.add_lit]
      exact HV5.out j u hj
    case c2 =>
      intro u hu
      simp at hu
      rcases hu with rfl | rfl | rfl | rfl | rfl <;> rfl
    case c3 => unfold maxLen; omega
    case c4 => omega
    intro v' w' hown' hgrow _
    have HP : Hid (InsPost B [] 0 ⟨s, c, f, p, b⟩ w (.returned v') w') := insPost_of hown' hgrow HO.out hB
    clear hown' hgrow
    go_wp2_with fail
    go_ret
    exact HP.out
  · cases hg
    have hc1 : l.length ≤ cap := hg3
    unfold maxLen at hg4
    have hc2 : (cap : Int) ≤ 9223372036854775807 := by omega
    clear ho hg1 hg2 hg4
    by_cases hcl : cap = l.length
    · subst hcl
      go_enter Try.func35, Try.ntmps35
      go_wp2_with (at_builtin; refine wpList_append_own _ rfl _ _ 26 rfl B 30 i0 _ 5 32 Try.underlying26 hi hz0 hz1 hz2 rfl (by decide) _ _ _ rfl HO.out ⟨vb, 0, none⟩ 1 1 [.int .i64 s, .int .i64 c, .int .i64 f, .bool p, .bool b] rfl rfl ?c1 ?c2 ?c3 ?c4 hB ?_)
      case c1 =>
        intro j u hj
        rw [Addr.add_lit]
        exact HV5.out j u hj
      case c2 =>
        intro u hu
        simp at hu
        rcases hu with rfl | rfl | rfl | rfl | rfl <;> rfl
      case c3 => unfold maxLen; omega
      case c4 => omega
      intro v' w' hown' hgrow _
      have HP : Hid (InsPost B l l.length ⟨s, c, f, p, b⟩ w (.returned v') w') := insPost_of hown' hgrow HO.out hB
      clear hown' hgrow
      go_wp2_with fail
      go_ret
      exact HP.out
    · have hcl2 : l.length < cap := by omega
      go_enter Try.func35, Try.ntmps35
      go_wp2_with (at_builtin; refine wpList_append_own _ rfl _ _ 26 rfl B 30 i0 _ 5 32 Try.underlying26 hi hz0 hz1 hz2 rfl (by decide) _ _ _ rfl HO.out ⟨vb, 0, none⟩ 1 1 [.int .i64 s, .int .i64 c, .int .i64 f, .bool p, .bool b] rfl rfl ?c1 ?c2 ?c3 ?c4 hB ?_)
      case c1 =>
        intro j u hj
        rw [Addr.add_lit]
        exact HV5.out j u hj
      case c2 =>
        intro u hu
        simp at hu
        rcases hu with rfl | rfl | rfl | rfl | rfl <;> rfl
      case c3 => unfold maxLen; omega
      case c4 => omega
      intro v' w' hown' hgrow _
      have HP : Hid (InsPost B l l.length ⟨s, c, f, p, b⟩ w (.returned v') w') := insPost_of hown' hgrow HO.out hB
      clear hown' hgrow
      go_wp2_with fail
      go_ret
      exact HP.out
end Go.Proofs.Ytodonnagmgbliaa
