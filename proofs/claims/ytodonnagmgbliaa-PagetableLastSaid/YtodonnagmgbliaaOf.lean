/- The entries of a frame. -/
import Derived.Test.YtodonnagmgbliaaPo
namespace Go.Proofs.Ytodonnagmgbliaa
open Go.ChangeShapes Go.WideShapes Go.ChangeAt Go.RowKit Go.Shelf
attribute [local go_sem] Oper.semAt_some

/-- block B is the box of an entry -/
def Box5 (W : World) (B : Nat) (a : Ar) : Prop := W.heap[B]? = some (.cells #[.int .i64 a.pr, .int .i64 a.pa, .int .i64 a.fr, .bool a.wr, .bool a.ac] 30 (0, 0))
theorem Box5.new (W : World) (a : Ar) : Box5 (W.alloc (.cells #[.int .i64 a.pr, .int .i64 a.pa, .int .i64 a.fr, .bool a.wr, .bool a.ac] 30)) W.heap.size a := World.alloc_heap_new W _
theorem Box5.kept {W W' : World} {row : Option Nat} {B : Nat} {a : Ar} (h : Box5 W B a) (hg : W.grownBy W' row) (hne : some B ≠ row) : Box5 W' B a := (hg.block B (Array.getElem?_eq_some_iff.1 h).1 hne).trans h
theorem Box5.cells {W : World} {B : Nat} {a : Ar} (h : Box5 W B a) : Cel W B 0 a :=
  ⟨by simp [World.cell?, show W.heap[B]? = _ from h], by simp [World.cell?, show W.heap[B]? = _ from h], by simp [World.cell?, show W.heap[B]? = _ from h], by simp [World.cell?, show W.heap[B]? = _ from h], by simp [World.cell?, show W.heap[B]? = _ from h]⟩
theorem box5_own {β : Type} (B : Nat) (a : Ar) : Own (fun (_ : β) W => Box5 W B a) := fun s X Y row hs hg hrow =>
  hs.kept hg (fun e' => by obtain ⟨o, ho, hc⟩ := hrow B e'.symm; rw [show X.heap[B]? = _ from hs] at ho; cases ho; cases hc)

set_option maxRecDepth 100000 in
set_option maxHeartbeats 4000000 in
theorem of_any (f : Int) (B : Nat) (b : Option Addr) (l : List Ar) (cap : Nat) (w : World) (h : ARow B b cap l w) (hl : l.length ≤ 100) :
    Calls Try.prog 21 #[.slice b l.length cap, .int .i64 f] w fun e w' => ∃ b' c', e = .returned (.slice b' (ofL l f).length c') ∧ ARow w.heap.size b' c' (ofL l f) w' ∧ Below w.heap.size w w' := by
  refine (callsIn_wide (n := 9)).1 ?_
  obtain ⟨i0, hi, hz0, hz1, hz2⟩ := info_parts area_info
  refine callsIn_of_wp_marks Try.func21 rfl trivial ?_ rfl
  simp only [Try.ntmps21, List.size_toArray, List.length_cons, List.length_nil, Nat.reduceAdd, Nat.reduceSub, Array.replicate_succ, Array.replicate_zero, List.push_toArray, List.append_toArray, List.nil_append, List.cons_append]
  gi_wp2
  refine ⟨trivial, (entries_in _ _ _ _ _ _).mono ?_⟩
  rintro e w1 ⟨rfl, rfl⟩
  gi_wp2
  have hrb : ∀ g, b = some ⟨g, 0, none⟩ → g < w.heap.size := fun g hg => by
    rcases h with ⟨e, _⟩ | ⟨g', e, _, h3, _⟩
    · rw [e] at hg; cases hg
    · rw [e] at hg; cases hg; exact h3
  have bO := ((Boxed.new w 26 (.slice none 0 0)).alloc (.cells #[.slice b l.length cap] 26)).alloc (.cells #[.int .i64 f] 3)
  have bS := (Boxed.new (w.alloc (.cells #[.slice none 0 0] 26)) 26 (.slice b l.length cap)).alloc (.cells #[.int .i64 f] 3)
  have bF := Boxed.new ((w.alloc (.cells #[.slice none 0 0] 26)).alloc (.cells #[.slice b l.length cap] 26)) 3 (.int .i64 f)
  simp only [World.size_alloc] at bS bF
  have hB0 : Below w.heap.size w (((w.alloc (.cells #[.slice none 0 0] 26)).alloc (.cells #[.slice b l.length cap] 26)).alloc (.cells #[.int .i64 f] 3)) := (((Below.refl _ w).alloc (Nat.le_refl _) _).alloc (by simp) _).alloc (by simp; omega) _
  have hsz0 : (((w.alloc (.cells #[.slice none 0 0] 26)).alloc (.cells #[.slice b l.length cap] 26)).alloc (.cells #[.int .i64 f] 3)).heap.size = w.heap.size + 3 := by simp
  obtain ⟨W0, hW0⟩ : ∃ W0, ((w.alloc (.cells #[.slice none 0 0] 26)).alloc (.cells #[.slice b l.length cap] 26)).alloc (.cells #[.int .i64 f] 3) = W0 := ⟨_, rfl⟩
  rw [hW0] at bO bS bF hB0 hsz0 ⊢
  clear hW0
  have hP : ∀ k, (k < w.heap.size ∨ k = w.heap.size + 1 ∨ k = w.heap.size + 1 + 1) → k < W0.heap.size := fun k hk => by omega
  refine wpIn_rangeFunc_ownH rfl (by omega) (gf := 46) (lb := #[.pointer (some ⟨w.heap.size + 1, 0, none⟩), .pointer (some ⟨w.heap.size + 1 + 1, 0, none⟩)]) rfl trivial (enters_of Try.func46 (by kernel_rfl) rfl)
    (entries_stops 8 (by omega) (w.heap.size + 1) (w.heap.size + 1 + 1) B (fun k => k < w.heap.size ∨ k = w.heap.size + 1 ∨ k = w.heap.size + 1 + 1) b cap l f hl W0 bS.cell bF.cell (h.below hB0) (Or.inr (Or.inl rfl)) (Or.inr (Or.inr rfl)) (fun g hg => Or.inl (hrb g hg)))
    KeepP.trans (keepP_b hP) (Below.refl _ _) (fun _ => rfl)
    (fun pre W => (∃ v, Boxed W w.heap.size 26 v ∧ W.ownsRow W0.heap.size 30 5 v pre.length (flat (pre.map Ent.get)) ∧ True) ∧ (Below w.heap.size w W ∧ W0.heap.size ≤ W.heap.size))
    (fun _ _ _ => False)
    (OwnFrom.and (Own.from (holdsRow_own W0.heap.size w.heap.size 26 30 5 (fun pre : List (Ent l f) => pre.length) (fun pre => flat (pre.map Ent.get)) (fun _ _ => True)) _) (OwnFrom.and (ownFrom_below (Nat.le_refl _) (by omega)) (fun _ _ _ _ hs hg _ => Nat.le_trans hs hg.size)))
    (fun _ _ _ _ _ hs _ _ => hs)
    ⟨⟨_, bO, World.ownsRow_nil _ _ _ _, trivial⟩, hB0, Nat.le_refl _⟩
    (fun x a' W => ∃ Bx, W0.heap.size ≤ Bx ∧ Box5 W Bx x.get ∧ a' = { tmps := #[.slice b l.length cap, .int .i64 f, undef, undef, .slice none 0 0, .pointer (some ⟨w.heap.size, 0, none⟩), undef, .pointer (some ⟨Bx, 0, none⟩), .slice b l.length cap, .int .i64 f, .func (.func 46) #[] #[.pointer (some ⟨w.heap.size + 1, 0, none⟩), .pointer (some ⟨w.heap.size + 1 + 1, 0, none⟩)], .int .i64 x.ix, arVal x.get, undef, undef, undef, undef, undef], defers := [] })
    (fun x a' s X Y row hs hg hr => by obtain ⟨Bx, h1, h2, h3⟩ := hs; exact ⟨Bx, h1, box5_own Bx x.get s X Y row h2 hg (fun r e => (hr r e).2), h3⟩)
    ?assign ?body ?done ?stop
  case assign =>
    rintro lid pre x W K ⟨⟨v, hv, hrow, _⟩, hB, hlo⟩ hK
    unfold arVal at *
    gi_wp2
    exact hK _ _ ((KeepsOthers.alloc _ _).from _) (KeepP.ofBelow ((Below.refl _ W).alloc (Nat.le_refl _) _)) ⟨⟨v, hv.alloc _, hrow.alloc _, trivial⟩, hB.alloc hB.size _, by simp; omega⟩ ⟨W.heap.size, hlo, Box5.new W x.get, rfl⟩
  case body =>
    rintro lid pre x a' W _ _ ⟨⟨v, hv, hrow, _⟩, hB, hlo⟩ ⟨Bx, hBx, hX, rfl⟩ hlt
    have hlt2 := x.lt
    have hsz1 : w.heap.size + 3 ≤ W0.heap.size := by omega
    clear hsz0
    obtain ⟨e, hxe⟩ : ∃ e, x.get = e := ⟨_, rfl⟩
    have HXE := Lib.hid hxe
    rw [hxe] at hX ⊢
    clear hxe
    obtain ⟨s, c, fr, p, q⟩ := e
    obtain ⟨k0, k1, k2, k3, k4⟩ := hX.cells
    simp only [Nat.zero_add] at k0 k1 k2 k3 k4
    have hc := hv.cell
    unfold arVal
    gi_wp2_with (gi_at_builtin; refine wpListIn_append_own _ rfl _ _ 26 rfl W0.heap.size 30 i0 _ 5 32 Try.underlying26 hi hz0 hz1 hz2 rfl (by decide) _ _ _ rfl (hrow.alloc _) ⟨W.heap.size, 0, none⟩ 1 1 [.int .i64 s, .int .i64 c, .int .i64 fr, .bool p, .bool q] rfl rfl ?c1 ?c2 ?c3 ?c4 ?c5 ?_)
    try (case c1 => (intro j u hj; rw [Addr.add_lit]; exact cells_at (Blk.new W s c fr p q) j u hj))
    case c2 => first | exact ⟨rfl, rfl, rfl, rfl, rfl⟩ | (intro u hu; simp at hu; rcases hu with rfl | rfl | rfl | rfl | rfl <;> rfl)
    case c3 => unfold maxLen; omega
    case c4 => omega
    case c5 => simp; omega
    intro v' w1 hown' hgrow _
    obtain ⟨g', cap', rfl⟩ := ownsRow_succ hown'
    obtain ⟨hv1, hv2, hr2, hk2, hb2⟩ := hv.appended (by decide) (own_mono hrow (by omega)) hB.size (Nat.le_refl _) (own_mono hown' (by omega)) hgrow
    have hc1 := hv1.cell
    have hf1 := hv1.frozen
    have hro := ownsRow_setCell_below hown' (a := ⟨w.heap.size, 0, none⟩) (by show w.heap.size < _; omega) (.slice (some ⟨g', 0, none⟩) (pre.length + 1) cap')
    have hfl : flat (pre.map Ent.get) ++ [.int .i64 s, .int .i64 c, .int .i64 fr, .bool p, .bool q] = flat ((pre ++ [x]).map Ent.get) := by
      rw [List.map_append, flat_append, show [x].map Ent.get = [x.get] from rfl, flat_one, HXE.out]
      rfl
    rw [hfl] at hro
    have hln : (pre ++ [x]).length = pre.length + 1 := by simp
    have HRO : Hid ((w1.setCell ⟨w.heap.size, 0, none⟩ (.slice (some ⟨g', 0, none⟩) (pre.length + 1) cap')).ownsRow W0.heap.size 30 5 (.slice (some ⟨g', 0, none⟩) (pre.length + 1) cap') (pre ++ [x]).length (flat ((pre ++ [x]).map Ent.get))) := by unfold Hid; rw [hln]; exact hro
    have HK : Hid (KeepP (fun k => k < w.heap.size ∨ k = w.heap.size + 1 ∨ k = w.heap.size + 1 + 1) W (w1.setCell ⟨w.heap.size, 0, none⟩ (.slice (some ⟨g', 0, none⟩) (pre.length + 1) cap'))) := by
      refine ⟨hk2.size, fun k hk hkl => ?_⟩
      rw [heap_setCell_other w1 ⟨w.heap.size, 0, none⟩ k _ (by show k ≠ w.heap.size; omega), hgrow.block k (by simp; omega) (fun e => by have := (hrow.lt k e.symm).1; omega)]
      exact Below.heap_alloc W _ k hkl
    have HF := Lib.hid (hk2.from W0.heap.size)
    have HV := Lib.hid hv2
    have HB2 := Lib.hid (hB.trans hb2)
    have HSZ : Hid (W0.heap.size ≤ (w1.setCell ⟨w.heap.size, 0, none⟩ (.slice (some ⟨g', 0, none⟩) (pre.length + 1) cap')).heap.size) := Nat.le_trans hlo hb2.size
    clear hln hfl hro hr2 hb2 hk2 hv2 hown' hgrow
    gi_wp2
    exact ⟨HF.out, HK.out, ⟨⟨_, HV.out, HRO.out, trivial⟩, HB2.out, HSZ.out⟩⟩
  case done =>
    rintro D ys W hD rfl ⟨⟨v, hv, hrow, _⟩, hB, hlo⟩ hK
    have hc := hv.cell
    rw [← List.length_map (f := Ent.get), ents_of l f] at hrow
    obtain ⟨b', c', rfl, _, _⟩ := ARow.ofOwn hrow
    gi_wp2
    refine ⟨by simp, .inl ⟨_, _, rfl, run_takeDeferred hK, ?_⟩⟩
    have hro := ownsRow_putObj hrow (.deferred none) hK rfl
    exact ⟨_, results_tmp rfl _ _ _, _, _, rfl, (ARow.ofOwn' hro).mono (by omega), hB.trans (belowK_b (w := w) (Nat.le_refl _) W D _ _ (by omega) hK rfl rfl)⟩
  case stop =>
    rintro D c pre W _ _ h _
    exact h.elim
end Go.Proofs.Ytodonnagmgbliaa
