/- Telling the accesses of a frame. -/
import Derived.Test.YtodonnagmgbliaaOf
namespace Go.Proofs.Ytodonnagmgbliaa
open Go.ChangeShapes Go.WideShapes Go.ChangeAt Go.RowKit Go.Shelf
attribute [local go_sem] Oper.semAt_some

set_option maxRecDepth 100000 in
set_option maxHeartbeats 4000000 in
theorem young_any (f : Int) (B : Nat) (b : Option Addr) (l : List Ar) (cap : Nat) (w : World) (h : ARow B b cap l w) (hl : l.length ≤ 100) :
    Calls Try.prog 14 #[.slice b l.length cap, .int .i64 f] w fun e w' => ∃ b' c', e = .returned (.tuple #[.slice b' (mapL l (youF f)).length c', .bool (youB l f)]) ∧ ARow w.heap.size b' c' (mapL l (youF f)) w' ∧ Below w.heap.size w w' := by
  refine (callsIn_wide (n := 9)).1 ?_
  refine callsIn_of_wp_marks Try.func14 rfl trivial ?_ rfl
  simp only [Try.ntmps14, List.size_toArray, List.length_cons, List.length_nil, Nat.reduceAdd, Nat.reduceSub, Array.replicate_succ, Array.replicate_zero, List.push_toArray, List.append_toArray, List.nil_append, List.cons_append]
  gi_wp2
  refine ⟨trivial, (callsIn_wide.2 (clone_any B b l cap w h (by omega))).mono ?_⟩
  rintro e w1 ⟨v1, rfl, ho, hb⟩
  obtain ⟨b2, c2, rfl, _, hr⟩ := ARow.ofOwn ho
  gi_wp2
  refine ⟨trivial, (entries_in _ _ _ _ _ _).mono ?_⟩
  rintro e w2 ⟨rfl, rfl⟩
  gi_wp2
  have hsz := hb.size
  have hrb : ∀ g, b = some ⟨g, 0, none⟩ → g < w.heap.size := fun g hg => by
    rcases h with ⟨e, _⟩ | ⟨g', e, _, h3, _⟩
    · rw [e] at hg; cases hg
    · rw [e] at hg; cases hg; exact h3
  have hrb2 : ∀ g, b2 = some ⟨g, 0, none⟩ → w.heap.size ≤ g ∧ g < w1.heap.size := fun g hg => by
    rcases hr with ⟨e, _⟩ | ⟨g', e, h2, h3, _⟩
    · rw [e] at hg; cases hg
    · rw [e] at hg; cases hg; exact ⟨h2, h3⟩
  have bO := (((Boxed.new w1 26 (.slice b2 l.length c2)).alloc (.cells #[.bool false] 4)).alloc (.cells #[.slice b l.length cap] 26)).alloc (.cells #[.int .i64 f] 3)
  have bY := ((Boxed.new (w1.alloc (.cells #[.slice b2 l.length c2] 26)) 4 (.bool false)).alloc (.cells #[.slice b l.length cap] 26)).alloc (.cells #[.int .i64 f] 3)
  have bS := (Boxed.new ((w1.alloc (.cells #[.slice b2 l.length c2] 26)).alloc (.cells #[.bool false] 4)) 26 (.slice b l.length cap)).alloc (.cells #[.int .i64 f] 3)
  have bF := Boxed.new (((w1.alloc (.cells #[.slice b2 l.length c2] 26)).alloc (.cells #[.bool false] 4)).alloc (.cells #[.slice b l.length cap] 26)) 3 (.int .i64 f)
  simp only [World.size_alloc] at bY bS bF
  have hB1 : Below w1.heap.size w1 ((((w1.alloc (.cells #[.slice b2 l.length c2] 26)).alloc (.cells #[.bool false] 4)).alloc (.cells #[.slice b l.length cap] 26)).alloc (.cells #[.int .i64 f] 3)) := ((((Below.refl _ w1).alloc (Nat.le_refl _) _).alloc (by simp) _).alloc (by simp; omega) _).alloc (by simp; omega) _
  have hsz0 : ((((w1.alloc (.cells #[.slice b2 l.length c2] 26)).alloc (.cells #[.bool false] 4)).alloc (.cells #[.slice b l.length cap] 26)).alloc (.cells #[.int .i64 f] 3)).heap.size = w1.heap.size + 4 := by simp
  simp only [Nat.add_assoc, Nat.reduceAdd] at bY bS bF ⊢
  obtain ⟨W0, hW0⟩ : ∃ W0, ((((w1.alloc (.cells #[.slice b2 l.length c2] 26)).alloc (.cells #[.bool false] 4)).alloc (.cells #[.slice b l.length cap] 26)).alloc (.cells #[.int .i64 f] 3)) = W0 := ⟨_, rfl⟩
  rw [hW0] at bO bY bS bF hB1 hsz0 ⊢
  clear hW0
  have hrow0 := ownsRow_below ho hB1
  have hB0 : Below w.heap.size w W0 := hb.trans (hB1.mono hsz)
  have hP : ∀ k, (k < w.heap.size ∨ k = w1.heap.size + 2 ∨ k = w1.heap.size + 3) → k < W0.heap.size := fun k hk => by omega
  refine wpIn_rangeFunc_ownH rfl (by omega) (gf := 46) (lb := #[.pointer (some ⟨w1.heap.size + 2, 0, none⟩), .pointer (some ⟨w1.heap.size + 3, 0, none⟩)]) rfl trivial (enters_of Try.func46 (by kernel_rfl) rfl)
    (entries_stops 8 (by omega) (w1.heap.size + 2) (w1.heap.size + 3) B (fun k => k < w.heap.size ∨ k = w1.heap.size + 2 ∨ k = w1.heap.size + 3) b cap l f hl W0 bS.cell bF.cell (h.below hB0) (Or.inr (Or.inl rfl)) (Or.inr (Or.inr rfl)) (fun g hg => Or.inl (hrb g hg)))
    KeepP.trans (keepP_b hP) (Below.refl _ _) (fun _ => rfl)
    (fun pre W => ((∃ v, Boxed W w1.heap.size 26 v ∧ W.ownsRow w.heap.size 30 5 v l.length (flat (setAll (youF f) pre)) ∧ v = .slice b2 l.length c2) ∧ Boxed W (w1.heap.size + 1) 4 (.bool (pre.any (fun x => x.get.ac)))) ∧ (Below w.heap.size w W ∧ W0.heap.size ≤ W.heap.size))
    (fun _ _ _ => False)
    (OwnFrom.and (OwnFrom.and (Own.from (holdsRow_own w.heap.size w1.heap.size 26 30 5 (fun _ => l.length) (fun pre => flat (setAll (youF f) pre)) (fun _ v => v = .slice b2 l.length c2)) _) (Own.from (boxed_own (w1.heap.size + 1) 4 (fun pre : List (Ent l f) => Value.bool (pre.any (fun x => x.get.ac)))) _)) (OwnFrom.and (ownFrom_below (Nat.le_refl _) (by omega)) (fun _ _ _ _ hs hg _ => Nat.le_trans hs hg.size)))
    (fun _ _ _ _ _ hs _ _ => hs)
    ⟨⟨⟨_, bO, hrow0, rfl⟩, bY⟩, hB0, Nat.le_refl _⟩
    (fun x a' W => ∃ Bx, W0.heap.size ≤ Bx ∧ Box5 W Bx x.get ∧ a' = { tmps := #[.slice b l.length cap, .int .i64 f, undef, undef, .slice none 0 0, .bool false, .pointer (some ⟨w1.heap.size, 0, none⟩), .pointer (some ⟨w1.heap.size + 1, 0, none⟩), .int .i64 x.ix, .pointer (some ⟨Bx, 0, none⟩), .slice b l.length cap, .slice b2 l.length c2, .slice b l.length cap, .int .i64 f, .func (.func 46) #[] #[.pointer (some ⟨w1.heap.size + 2, 0, none⟩), .pointer (some ⟨w1.heap.size + 3, 0, none⟩)], .int .i64 x.ix, arVal x.get, undef, undef, undef, undef, undef, undef, undef, undef, undef, undef, undef], defers := [] })
    (fun x a' s X Y row hs hg hr => by obtain ⟨Bx, h1, h2, h3⟩ := hs; exact ⟨Bx, h1, box5_own Bx x.get s X Y row h2 hg (fun r e => (hr r e).2), h3⟩)
    ?assign ?body ?done ?stop
  case assign =>
    rintro lid pre x W K ⟨⟨⟨v, hv, hrow, hvv⟩, hy⟩, hB, hlo⟩ hK
    unfold arVal at *
    gi_wp2
    exact hK _ _ ((KeepsOthers.alloc _ _).from _) (KeepP.ofBelow ((Below.refl _ W).alloc (Nat.le_refl _) _)) ⟨⟨⟨v, hv.alloc _, hrow.alloc _, hvv⟩, hy.alloc _⟩, hB.alloc hB.size _, by simp; omega⟩ ⟨W.heap.size, hlo, Box5.new W x.get, rfl⟩
  case body =>
    rintro lid pre x a' W _ _ ⟨⟨⟨v, hv, hrow, rfl⟩, hy⟩, hB, hlo⟩ ⟨Bx, hBx, hX, rfl⟩ _
    have hlt := x.lt
    have hlt' : (x.ix : Int) < (l.length : Int) := by omega
    have hsz1 : w1.heap.size + 4 ≤ W0.heap.size := by omega
    clear hsz0 hrow0 bO bY bS bF
    have hsl := setAll_len (youF f) pre
    have hrr := ARow.ofOwn' (by have := hrow; rw [← hsl] at this; exact this)
    obtain ⟨g, rfl, hg0, hg1, hcp, _, hcl⟩ := hrr.at (by omega)
    have hcel := hcl x.ix (by omega)
    have hcap : (l.length : Int) ≤ c2 := by omega
    have hc := hv.cell
    have hg2 := hrb2 g rfl
    obtain ⟨e, hxe⟩ : ∃ e, x.get = e := ⟨_, rfl⟩
    have HXE := Lib.hid hxe
    rw [hxe] at hX ⊢
    clear hxe
    obtain ⟨s, c, fr, p, q⟩ := e
    obtain ⟨k0, k1, k2, k3, k4⟩ := hX.cells
    simp only [Nat.zero_add] at k0 k1 k2 k3 k4
    unfold arVal
    generalize hyb : pre.any (fun x => x.get.ac) = yb at *
    have HYB := Lib.hid hyb
    clear hyb
    cases yb with
    | true =>
      have HS1 := ownsRow_setCell_other hrow (a := ⟨w1.heap.size + 1, 0, none⟩) (by intro e; have : g = w1.heap.size + 1 := (by simpa [Value.ownBlock] using e); omega) (.bool true)
      have hfz1 := HS1.frozenAt (x.ix * 5 + 4)
      have hset := own_set2 HS1 hsl x.ix hlt 4 (by omega) (.bool false) ⟨((setAll (youF f) pre).getD x.ix Ar.zero).pr, ((setAll (youF f) pre).getD x.ix Ar.zero).pa, ((setAll (youF f) pre).getD x.ix Ar.zero).fr, ((setAll (youF f) pre).getD x.ix Ar.zero).wr, false⟩ rfl
      rw [you_set pre x] at hset
      have HS := Lib.hid hset
      have k4b : (W.setCell ⟨w1.heap.size + 1, 0, none⟩ (.bool true)).cell? ⟨g, x.ix * 5 + 4, none⟩ = some (.bool ((setAll (youF f) pre).getD x.ix Ar.zero).ac) := by rw [World.cell?_setCell_other _ _ _ _ (by intro e; injection e with e1 e2 e3; omega)]; exact hcel.c4
      have hcb : (W.setCell ⟨w1.heap.size + 1, 0, none⟩ (.bool true)).cell? ⟨w1.heap.size, 0, none⟩ = some (.slice (some ⟨g, 0, none⟩) l.length c2) := by rw [World.cell?_setCell_other _ _ _ _ (by intro e; injection e with e1 e2 e3; omega)]; exact hc
      have HF : Hid (KeepsFrom W0.heap.size W ((W.setCell ⟨w1.heap.size + 1, 0, none⟩ (.bool true)).setCell ⟨g, x.ix * 5 + 4, none⟩ (.bool false))) := ((KeepsOthers.setCell _ _ _).trans (KeepsOthers.setCell _ _ _)).from _
      have HK : Hid (KeepP (fun k => k < w.heap.size ∨ k = w1.heap.size + 2 ∨ k = w1.heap.size + 3) W ((W.setCell ⟨w1.heap.size + 1, 0, none⟩ (.bool true)).setCell ⟨g, x.ix * 5 + 4, none⟩ (.bool false))) := ⟨by simp [World.setCell], fun k hk _ => (heap_setCell_other _ ⟨g, x.ix * 5 + 4, none⟩ k _ (by show k ≠ g; omega)).trans (heap_setCell_other W ⟨w1.heap.size + 1, 0, none⟩ k _ (by show k ≠ w1.heap.size + 1; omega))⟩
      have HV : Hid (Boxed ((W.setCell ⟨w1.heap.size + 1, 0, none⟩ (.bool true)).setCell ⟨g, x.ix * 5 + 4, none⟩ (.bool false)) w1.heap.size 26 (.slice (some ⟨g, 0, none⟩) l.length c2)) := ((heap_setCell_other _ ⟨g, x.ix * 5 + 4, none⟩ _ _ (by show w1.heap.size ≠ g; omega)).trans (heap_setCell_other W ⟨w1.heap.size + 1, 0, none⟩ _ _ (by show w1.heap.size ≠ w1.heap.size + 1; omega))).trans hv
      have HY : Hid (Boxed ((W.setCell ⟨w1.heap.size + 1, 0, none⟩ (.bool true)).setCell ⟨g, x.ix * 5 + 4, none⟩ (.bool false)) (w1.heap.size + 1) 4 (.bool ((pre ++ [x]).any (fun x => x.get.ac)))) := by
        have h1 : (pre ++ [x]).any (fun x => x.get.ac) = true := by rw [List.any_append, HYB.out]; simp [HXE.out]
        rw [h1]
        exact (heap_setCell_other _ ⟨g, x.ix * 5 + 4, none⟩ _ _ (by show w1.heap.size + 1 ≠ g; omega)).trans (hy.set (.bool true))
      have HB : Hid (Below w.heap.size w ((W.setCell ⟨w1.heap.size + 1, 0, none⟩ (.bool true)).setCell ⟨g, x.ix * 5 + 4, none⟩ (.bool false))) := (hB.setCell (p := ⟨w1.heap.size + 1, 0, none⟩) (by show w.heap.size ≤ w1.heap.size + 1; omega) _).setCell (p := ⟨g, x.ix * 5 + 4, none⟩) hg0 _
      have HZ : Hid (W0.heap.size ≤ ((W.setCell ⟨w1.heap.size + 1, 0, none⟩ (.bool true)).setCell ⟨g, x.ix * 5 + 4, none⟩ (.bool false)).heap.size) := by unfold Hid; first | (simp [World.setCell]; done) | (simpa [World.setCell] using hlo)
      have hcy := hy.cell
      have hfy := hy.frozen
      generalize ((setAll (youF f) pre).getD x.ix Ar.zero).ac = ac0 at *
      clear hset hcel hcl hrr hrow hv hB hsl HS1
      gi_wp2
      exact ⟨HF.out, HK.out, ⟨⟨⟨_, HV.out, HS.out, rfl⟩, HY.out⟩, HB.out, HZ.out⟩⟩
    | false =>
      have HS1 := ownsRow_setCell_other hrow (a := ⟨w1.heap.size + 1, 0, none⟩) (by intro e; have : g = w1.heap.size + 1 := (by simpa [Value.ownBlock] using e); omega) (.bool q)
      have hfz1 := HS1.frozenAt (x.ix * 5 + 4)
      have hset := own_set2 HS1 hsl x.ix hlt 4 (by omega) (.bool false) ⟨((setAll (youF f) pre).getD x.ix Ar.zero).pr, ((setAll (youF f) pre).getD x.ix Ar.zero).pa, ((setAll (youF f) pre).getD x.ix Ar.zero).fr, ((setAll (youF f) pre).getD x.ix Ar.zero).wr, false⟩ rfl
      rw [you_set pre x] at hset
      have HS := Lib.hid hset
      have k4b : (W.setCell ⟨w1.heap.size + 1, 0, none⟩ (.bool q)).cell? ⟨g, x.ix * 5 + 4, none⟩ = some (.bool ((setAll (youF f) pre).getD x.ix Ar.zero).ac) := by rw [World.cell?_setCell_other _ _ _ _ (by intro e; injection e with e1 e2 e3; omega)]; exact hcel.c4
      have hcb : (W.setCell ⟨w1.heap.size + 1, 0, none⟩ (.bool q)).cell? ⟨w1.heap.size, 0, none⟩ = some (.slice (some ⟨g, 0, none⟩) l.length c2) := by rw [World.cell?_setCell_other _ _ _ _ (by intro e; injection e with e1 e2 e3; omega)]; exact hc
      have HF : Hid (KeepsFrom W0.heap.size W ((W.setCell ⟨w1.heap.size + 1, 0, none⟩ (.bool q)).setCell ⟨g, x.ix * 5 + 4, none⟩ (.bool false))) := ((KeepsOthers.setCell _ _ _).trans (KeepsOthers.setCell _ _ _)).from _
      have HK : Hid (KeepP (fun k => k < w.heap.size ∨ k = w1.heap.size + 2 ∨ k = w1.heap.size + 3) W ((W.setCell ⟨w1.heap.size + 1, 0, none⟩ (.bool q)).setCell ⟨g, x.ix * 5 + 4, none⟩ (.bool false))) := ⟨by simp [World.setCell], fun k hk _ => (heap_setCell_other _ ⟨g, x.ix * 5 + 4, none⟩ k _ (by show k ≠ g; omega)).trans (heap_setCell_other W ⟨w1.heap.size + 1, 0, none⟩ k _ (by show k ≠ w1.heap.size + 1; omega))⟩
      have HV : Hid (Boxed ((W.setCell ⟨w1.heap.size + 1, 0, none⟩ (.bool q)).setCell ⟨g, x.ix * 5 + 4, none⟩ (.bool false)) w1.heap.size 26 (.slice (some ⟨g, 0, none⟩) l.length c2)) := ((heap_setCell_other _ ⟨g, x.ix * 5 + 4, none⟩ _ _ (by show w1.heap.size ≠ g; omega)).trans (heap_setCell_other W ⟨w1.heap.size + 1, 0, none⟩ _ _ (by show w1.heap.size ≠ w1.heap.size + 1; omega))).trans hv
      have HY : Hid (Boxed ((W.setCell ⟨w1.heap.size + 1, 0, none⟩ (.bool q)).setCell ⟨g, x.ix * 5 + 4, none⟩ (.bool false)) (w1.heap.size + 1) 4 (.bool ((pre ++ [x]).any (fun x => x.get.ac)))) := by
        have h1 : (pre ++ [x]).any (fun x => x.get.ac) = q := by rw [List.any_append, HYB.out]; simp [HXE.out]
        rw [h1]
        exact (heap_setCell_other _ ⟨g, x.ix * 5 + 4, none⟩ _ _ (by show w1.heap.size + 1 ≠ g; omega)).trans (hy.set (.bool q))
      have HB : Hid (Below w.heap.size w ((W.setCell ⟨w1.heap.size + 1, 0, none⟩ (.bool q)).setCell ⟨g, x.ix * 5 + 4, none⟩ (.bool false))) := (hB.setCell (p := ⟨w1.heap.size + 1, 0, none⟩) (by show w.heap.size ≤ w1.heap.size + 1; omega) _).setCell (p := ⟨g, x.ix * 5 + 4, none⟩) hg0 _
      have HZ : Hid (W0.heap.size ≤ ((W.setCell ⟨w1.heap.size + 1, 0, none⟩ (.bool q)).setCell ⟨g, x.ix * 5 + 4, none⟩ (.bool false)).heap.size) := by unfold Hid; first | (simp [World.setCell]; done) | (simpa [World.setCell] using hlo)
      have hcy := hy.cell
      have hfy := hy.frozen
      generalize ((setAll (youF f) pre).getD x.ix Ar.zero).ac = ac0 at *
      clear hset hcel hcl hrr hrow hv hB hsl HS1
      gi_wp2
      exact ⟨HF.out, HK.out, ⟨⟨⟨_, HV.out, HS.out, rfl⟩, HY.out⟩, HB.out, HZ.out⟩⟩
  case done =>
    rintro D ys W hD rfl ⟨⟨⟨v, hv, hrow, rfl⟩, hy⟩, hB, hlo⟩ hK
    have hc := hv.cell
    rw [ents_any] at hy
    have hcy := hy.cell
    gi_wp2
    gi_quiet (fail)
    gi_wp2
    replace hK : (W.drewN nq).heap[D]? = some (.deferred (some [])) := hK
    replace hrow : (W.drewN nq).ownsRow w.heap.size 30 5 (.slice b2 l.length c2) l.length (flat (setAll (youF f) (entsL l f))) := hrow
    replace hB : Below w.heap.size w (W.drewN nq) := below_drewN hB _
    refine ⟨by simp, .inl ⟨_, _, rfl, run_takeDeferred hK, ?_⟩⟩
    rw [ents_map l f (youF f) youF_miss] at hrow
    have hro := ownsRow_putObj hrow (.deferred none) hK rfl
    have hlen := mapL_len l (youF f)
    rw [← hlen] at hro
    exact ⟨.tuple #[.slice b2 l.length c2, .bool (youB l f)], by simp [results, Try.results14, go_sem], _, _, by rw [hlen], ARow.ofOwn' hro, hB.trans (belowK_b (w := w) (Nat.le_refl _) (W.drewN nq) D _ _ (by omega) hK rfl rfl)⟩
  case stop =>
    rintro D c pre W _ _ h _
    exact h.elim
end Go.Proofs.Ytodonnagmgbliaa
