/- Protecting the entries of a frame. -/
import Derived.Test.YtodonnagmgbliaaIt
namespace Go.Proofs.Ytodonnagmgbliaa
open Go.ChangeShapes Go.WideShapes Go.ChangeAt Go.RowKit Go.Shelf
attribute [local go_sem] Oper.semAt_some

theorem proF_miss {f : Int} (x : Ar) (h : frB f x = false) : proF f x = x := by unfold proF; rw [if_neg (of_decide_eq_false h)]
theorem youF_miss {f : Int} (x : Ar) (h : frB f x = false) : youF f x = x := by unfold youF; rw [if_neg (of_decide_eq_false h)]
theorem setAll_or {l : List Ar} {f : Int} (F : Ar → Ar) (pre : List (Ent l f)) (j : Nat) (hj : j < l.length) : (setAll F pre).getD j Ar.zero = l.getD j Ar.zero ∨ (setAll F pre).getD j Ar.zero = F (l.getD j Ar.zero) := by
  unfold setAll
  suffices h : ∀ (q : List (Ent l f)) (R : List Ar), R.length = l.length → (R.getD j Ar.zero = l.getD j Ar.zero ∨ R.getD j Ar.zero = F (l.getD j Ar.zero)) → ((q.foldl (fun R x => R.set x.ix (F x.get)) R).getD j Ar.zero = l.getD j Ar.zero ∨ (q.foldl (fun R x => R.set x.ix (F x.get)) R).getD j Ar.zero = F (l.getD j Ar.zero)) from h pre l rfl (Or.inl rfl)
  intro q
  induction q with
  | nil => intro R _ h; exact h
  | cons x r ih =>
    intro R hR h
    simp only [List.foldl_cons]
    refine ih _ (by rw [List.length_set]; exact hR) ?_
    rw [getD_get (by rw [List.length_set, hR]; exact hj)]
    rw [getD_get (by rw [hR]; exact hj)] at h
    by_cases e : x.ix = j
    · subst e
      rw [List.getElem_set_self]
      exact Or.inr rfl
    · rw [List.getElem_set_ne e]
      exact h
theorem pro_set {l : List Ar} {f : Int} (pre : List (Ent l f)) (x : Ent l f) : (setAll (proF f) pre).set x.ix ⟨((setAll (proF f) pre).getD x.ix Ar.zero).pr, ((setAll (proF f) pre).getD x.ix Ar.zero).pa, ((setAll (proF f) pre).getD x.ix Ar.zero).fr, false, ((setAll (proF f) pre).getD x.ix Ar.zero).ac⟩ = setAll (proF f) (pre ++ [x]) := by
  rw [setAll_snoc]
  congr 1
  have h := of_decide_eq_true x.ok
  rcases setAll_or (proF f) pre x.ix x.lt with e | e <;> rw [e] <;> unfold proF Ent.get <;> rw [if_pos h]
theorem you_set {l : List Ar} {f : Int} (pre : List (Ent l f)) (x : Ent l f) : (setAll (youF f) pre).set x.ix ⟨((setAll (youF f) pre).getD x.ix Ar.zero).pr, ((setAll (youF f) pre).getD x.ix Ar.zero).pa, ((setAll (youF f) pre).getD x.ix Ar.zero).fr, ((setAll (youF f) pre).getD x.ix Ar.zero).wr, false⟩ = setAll (youF f) (pre ++ [x]) := by
  rw [setAll_snoc]
  congr 1
  have h := of_decide_eq_true x.ok
  rcases setAll_or (youF f) pre x.ix x.lt with e | e <;> rw [e] <;> unfold youF Ent.get <;> rw [if_pos h]
theorem setAll_get {l : List Ar} {f : Int} (F : Ar → Ar) (pre : List (Ent l f)) (x : Ent l f) : x.ix < (setAll F pre).length := by rw [setAll_len]; exact x.lt

set_option maxRecDepth 100000 in
set_option maxHeartbeats 4000000 in
theorem protect_any (f : Int) (B : Nat) (b : Option Addr) (l : List Ar) (cap : Nat) (w : World) (h : ARow B b cap l w) (hl : l.length ≤ 100) :
    Calls Try.prog 25 #[.slice b l.length cap, .int .i64 f] w fun e w' => ∃ b' c', e = .returned (.slice b' (mapL l (proF f)).length c') ∧ ARow w.heap.size b' c' (mapL l (proF f)) w' ∧ Below w.heap.size w w' := by
  refine (callsIn_wide (n := 9)).1 ?_
  refine callsIn_of_wp_marks Try.func25 rfl trivial ?_ rfl
  simp only [Try.ntmps25, List.size_toArray, List.length_cons, List.length_nil, Nat.reduceAdd, Nat.reduceSub, Array.replicate_succ, Array.replicate_zero, List.push_toArray, List.append_toArray, List.nil_append, List.cons_append]
  gi_wp2
  refine ⟨trivial, (callsIn_wide.2 (clone_any B b l cap w h (by omega))).mono ?_⟩
  rintro e w1 ⟨v1, rfl, ho, hb⟩
  obtain ⟨b2, c2, rfl, _, hr⟩ := ARow.ofOwn ho
  gi_wp2
  refine ⟨trivial, (entries_in _ _ _ _ _ _).mono ?_⟩
  rintro e w2 ⟨rfl, rfl⟩
  gi_wp2
  have hsz := hb.size
  have hrb : ∀ g, b = some ⟨g, 0, none⟩ → g < w.heap.size := fun g hg => by
    rcases h with ⟨e, _⟩ | ⟨g', e, _, h3, _⟩
    · rw [e] at hg; cases hg
    · rw [e] at hg; cases hg; exact h3
  have hrb2 : ∀ g, b2 = some ⟨g, 0, none⟩ → w.heap.size ≤ g ∧ g < w1.heap.size := fun g hg => by
    rcases hr with ⟨e, _⟩ | ⟨g', e, h2, h3, _⟩
    · rw [e] at hg; cases hg
    · rw [e] at hg; cases hg; exact ⟨h2, h3⟩
  have bO := ((Boxed.new w1 26 (.slice b2 l.length c2)).alloc (.cells #[.slice b l.length cap] 26)).alloc (.cells #[.int .i64 f] 3)
  have bS := (Boxed.new (w1.alloc (.cells #[.slice b2 l.length c2] 26)) 26 (.slice b l.length cap)).alloc (.cells #[.int .i64 f] 3)
  have bF := Boxed.new ((w1.alloc (.cells #[.slice b2 l.length c2] 26)).alloc (.cells #[.slice b l.length cap] 26)) 3 (.int .i64 f)
  simp only [World.size_alloc] at bS bF
  have hB1 : Below w1.heap.size w1 (((w1.alloc (.cells #[.slice b2 l.length c2] 26)).alloc (.cells #[.slice b l.length cap] 26)).alloc (.cells #[.int .i64 f] 3)) := (((Below.refl _ w1).alloc (Nat.le_refl _) _).alloc (by simp) _).alloc (by simp; omega) _
  have hsz0 : (((w1.alloc (.cells #[.slice b2 l.length c2] 26)).alloc (.cells #[.slice b l.length cap] 26)).alloc (.cells #[.int .i64 f] 3)).heap.size = w1.heap.size + 3 := by simp
  obtain ⟨W0, hW0⟩ : ∃ W0, ((w1.alloc (.cells #[.slice b2 l.length c2] 26)).alloc (.cells #[.slice b l.length cap] 26)).alloc (.cells #[.int .i64 f] 3) = W0 := ⟨_, rfl⟩
  rw [hW0] at bO bS bF hB1 hsz0 ⊢
  clear hW0
  have hrow0 := ownsRow_below ho hB1
  have hB0 : Below w.heap.size w W0 := hb.trans (hB1.mono hsz)
  have hP : ∀ k, (k < w.heap.size ∨ k = w1.heap.size + 1 ∨ k = w1.heap.size + 1 + 1) → k < W0.heap.size := fun k hk => by omega
  refine wpIn_rangeFunc_ownG rfl (by omega) (gf := 46) (lb := #[.pointer (some ⟨w1.heap.size + 1, 0, none⟩), .pointer (some ⟨w1.heap.size + 1 + 1, 0, none⟩)]) rfl trivial (enters_of Try.func46 (by kernel_rfl) rfl)
    (entries_stops 8 (by omega) (w1.heap.size + 1) (w1.heap.size + 1 + 1) B (fun k => k < w.heap.size ∨ k = w1.heap.size + 1 ∨ k = w1.heap.size + 1 + 1) b cap l f hl W0 bS.cell bF.cell (h.below hB0) (Or.inr (Or.inl rfl)) (Or.inr (Or.inr rfl)) (fun g hg => Or.inl (hrb g hg)))
    KeepP.trans (keepP_b hP) (Below.refl _ _) (fun _ => rfl)
    (fun pre W => (∃ v, Boxed W w1.heap.size 26 v ∧ W.ownsRow w.heap.size 30 5 v l.length (flat (setAll (proF f) pre)) ∧ v = .slice b2 l.length c2) ∧ Below w.heap.size w W)
    (fun _ _ _ => False)
    (OwnFrom.and (Own.from (holdsRow_own w.heap.size w1.heap.size 26 30 5 (fun _ => l.length) (fun pre => flat (setAll (proF f) pre)) (fun _ v => v = .slice b2 l.length c2)) _) (ownFrom_below (Nat.le_refl _) (by omega)))
    (fun _ _ _ _ _ hs _ _ => hs)
    ⟨⟨_, bO, hrow0, rfl⟩, hB0⟩
    (fun x => { tmps := #[.slice b l.length cap, .int .i64 f, undef, undef, .slice none 0 0, .pointer (some ⟨w1.heap.size, 0, none⟩), .int .i64 x.ix, .slice b l.length cap, .slice b2 l.length c2, .slice b l.length cap, .int .i64 f, .func (.func 46) #[] #[.pointer (some ⟨w1.heap.size + 1, 0, none⟩), .pointer (some ⟨w1.heap.size + 1 + 1, 0, none⟩)], .int .i64 x.ix, arVal x.get, undef, undef, undef, undef, undef], defers := [] }) ?assign ?body ?done ?stop
  case assign =>
    intro lid x W K hK
    gi_wp2
    exact hK
  case body =>
    rintro lid pre x W ⟨⟨v, hv, hrow, rfl⟩, hB⟩ _
    have hlt := x.lt
    have hlt' : (x.ix : Int) < (l.length : Int) := by omega
    have hsl := setAll_len (proF f) pre
    have hrr := ARow.ofOwn' (by have := hrow; rw [← hsl] at this; exact this)
    obtain ⟨g, rfl, hg0, hg1, hcp, _, hcl⟩ := hrr.at (by omega)
    have hcel := hcl x.ix (by omega)
    have hcap : (l.length : Int) ≤ c2 := by omega
    have hfz := hrow.frozenAt (x.ix * 5 + 3)
    have hc := hv.cell
    have hg2 := hrb2 g rfl
    have hset := own_set2 hrow hsl x.ix hlt 3 (by omega) (.bool false) ⟨((setAll (proF f) pre).getD x.ix Ar.zero).pr, ((setAll (proF f) pre).getD x.ix Ar.zero).pa, ((setAll (proF f) pre).getD x.ix Ar.zero).fr, false, ((setAll (proF f) pre).getD x.ix Ar.zero).ac⟩ rfl
    rw [pro_set pre x] at hset
    have HS := Lib.hid hset
    have k3 := hcel.c3
    have HF : Hid (KeepsFrom W0.heap.size W (W.setCell ⟨g, x.ix * 5 + 3, none⟩ (.bool false))) := (KeepsOthers.setCell _ _ _).from _
    have HK : Hid (KeepP (fun k => k < w.heap.size ∨ k = w1.heap.size + 1 ∨ k = w1.heap.size + 1 + 1) W (W.setCell ⟨g, x.ix * 5 + 3, none⟩ (.bool false))) := ⟨by simp [World.setCell], fun k hk _ => heap_setCell_other W ⟨g, x.ix * 5 + 3, none⟩ k _ (by show k ≠ g; omega)⟩
    have HV : Hid (Boxed (W.setCell ⟨g, x.ix * 5 + 3, none⟩ (.bool false)) w1.heap.size 26 (.slice (some ⟨g, 0, none⟩) l.length c2)) := (heap_setCell_other W ⟨g, x.ix * 5 + 3, none⟩ _ _ (by show w1.heap.size ≠ g; omega)).trans hv
    have HB : Hid (Below w.heap.size w (W.setCell ⟨g, x.ix * 5 + 3, none⟩ (.bool false))) := hB.setCell (p := ⟨g, x.ix * 5 + 3, none⟩) hg0 _
    generalize ((setAll (proF f) pre).getD x.ix Ar.zero).wr = wr0 at *
    clear hset hcel hcl hrr hrow hv hB hsl hrow0 bO bS bF
    gi_wp2
    exact ⟨HF.out, HK.out, ⟨⟨_, HV.out, HS.out, rfl⟩, HB.out⟩⟩
  case done =>
    rintro D ys W hD rfl ⟨⟨v, hv, hrow, rfl⟩, hB⟩ hK
    have hc := hv.cell
    gi_wp2
    refine ⟨by simp, .inl ⟨_, _, rfl, run_takeDeferred hK, ?_⟩⟩
    rw [ents_map l f (proF f) proF_miss] at hrow
    have hro := ownsRow_putObj hrow (.deferred none) hK rfl
    have hlen := mapL_len l (proF f)
    rw [← hlen] at hro
    exact ⟨_, results_tmp rfl _ _ _, _, _, by rw [hlen]; rfl, ARow.ofOwn' hro, hB.trans (belowK_b (w := w) (Nat.le_refl _) W D _ _ (by omega) hK rfl rfl)⟩
  case stop =>
    rintro D c pre W _ _ h _
    exact h.elim
end Go.Proofs.Ytodonnagmgbliaa
