/- Layer 46, shared texts of this seat, part 14. -/
import Derived.Shelf.SlicesE.Clone
import Derived.Ground.SlgnProg
import Derived.Test.YtimhaidiclbnhaaGreatM13
/- slices.Clone at areas; a part of an area. -/
set_option linter.unusedSimpArgs false
set_option linter.unusedVariables false
set_option maxRecDepth 100000
namespace Go.Proofs.YtimhaidiclbnhaaGreat.Ara
open Go.ChangeShapes Go.WideShapes Go.ChangeAt Go.RowKit

def cloneRen : Go.Shelf.Ren := ⟨fun | 41 => 130 | n => n, fun | 22 => 106 | 23 => 139 | 4 => 4 | n => n, fun | n => n⟩
theorem cloneLaid : Go.Proofs.SlLaysE0.n41 Tryz.prog cloneRen := {
  mixed := by kernel_rfl
  f41 := ⟨Tryz.f130.name, by decide, Tryz.func130.trans (congrArg some (by kernel_rfl))⟩
  t4 := Tryz.underlying4
  a4 := Tryz.isAgg4
  z4 := Tryz.sizeOf4
  v4 := Tryz.zeroValue4
  t22 := Tryz.underlying106
  a22 := Tryz.isAgg106
  z22 := Tryz.sizeOf106
  v22 := Tryz.zeroValue106 }
theorem cells_one {l : List Ar} : ∀ u ∈ flat l, u.oneCell' = true := by
  intro u hu
  obtain ⟨a, _, ha⟩ := List.mem_flatMap.1 hu
  simp [Ar.cells] at ha
  rcases ha with rfl | rfl | rfl | rfl | rfl <;> rfl
theorem ARow.flat_cell {w : World} {g : Nat} {l : List Ar} (h : ∀ j, j < l.length → Cel w g (j * 5) (l.getD j Ar.zero)) (i : Nat) (u : Value) (hu : (flat l)[i]? = some u) : w.cell? ⟨g, i, none⟩ = some u := by
  have hi : i < l.length * 5 := by rw [← flat_len]; exact (List.getElem?_eq_some_iff.1 hu).1
  have hq : i / 5 < l.length := by omega
  have hr : i % 5 < 5 := Nat.mod_lt _ (by omega)
  have he : i / 5 * 5 + i % 5 = i := by omega
  rw [← he, flat_at l _ hq _ hr] at hu
  have hc := h _ hq
  rw [← he]
  have h5 : i % 5 = 0 ∨ i % 5 = 1 ∨ i % 5 = 2 ∨ i % 5 = 3 ∨ i % 5 = 4 := by omega
  rcases h5 with h | h | h | h | h <;> rw [h] at hu ⊢ <;> simp [Ar.cells] at hu <;> rw [← hu]
  · exact hc.c0
  · exact hc.c1
  · exact hc.c2
  · exact hc.c3
  · exact hc.c4
theorem clone_any (B : Nat) (a : Option Addr) (l : List Ar) (cap : Nat) (w : World) (h : ARow B a cap l w) (hl : l.length ≤ 10000) :
    Calls Tryz.prog 130 #[.slice a l.length cap] w fun e w' => ∃ v', e = .returned v' ∧ w'.ownsRow w.heap.size 139 5 v' l.length (flat l) ∧ Below w.heap.size w w' := by
  rcases h with ⟨rfl, rfl, rfl⟩ | ⟨g, rfl, h2, h3, h4, h5, h6⟩
  · refine (AnyE.slices_Clone_nil cloneLaid 0 0 w).mono ?_
    rintro e w' ⟨rfl, rfl⟩
    exact ⟨_, rfl, ⟨by simp [flat], Or.inl ⟨rfl, rfl⟩⟩, Below.refl _ _⟩
  · obtain ⟨i0, hi, hz0, hz1, hz2⟩ := info_parts area_info
    refine (AnyE.slices_Clone cloneLaid i0 _ 5 40 hi hz0 hz1 hz2 rfl (by decide) Tryz.sizeOf139 g 0 l.length cap (flat l) w (flat_len l) (by unfold maxLen; omega) (by omega) (fun j u hj => by rw [Nat.zero_add]; exact ARow.flat_cell h6 j u hj) cells_one).mono ?_
    rintro e w' ⟨v', rfl, ho, _, hb⟩
    exact ⟨v', rfl, ho, hb⟩

theorem Blk.setOther {W : World} {g : Nat} {a : Ar} (h : Blk W g a) (g2 o : Nat) (v : Value) (hne : g ≠ g2) : Blk (W.setCell ⟨g2, o, none⟩ v) g a :=
  ⟨by simpa [World.setCell] using h.hi, by rw [World.cell?_setCell_other _ _ _ _ (by intro e; cases e; exact hne rfl)]; exact h.c0, by rw [World.cell?_setCell_other _ _ _ _ (by intro e; cases e; exact hne rfl)]; exact h.c1, by rw [World.cell?_setCell_other _ _ _ _ (by intro e; cases e; exact hne rfl)]; exact h.c2, by rw [World.cell?_setCell_other _ _ _ _ (by intro e; cases e; exact hne rfl)]; exact h.c3, by rw [World.cell?_setCell_other _ _ _ _ (by intro e; cases e; exact hne rfl)]; exact h.c4, fun i hi => by rw [World.frozen?_setCell]; exact h.f i hi⟩
theorem Blk.two (w : World) (s c f p : Int) (b : Bool) (s' c' f' p' : Int) (b' : Bool) :
    Blk ((w.alloc (.cells #[.int .i64 s, .int .i64 c, .int .i64 f, .int .i64 p, .bool b] 139)).alloc (.cells #[.int .i64 s', .int .i64 c', .int .i64 f', .int .i64 p', .bool b'] 139)) w.heap.size ⟨s, c, f, p, b⟩ ∧
    Blk ((w.alloc (.cells #[.int .i64 s, .int .i64 c, .int .i64 f, .int .i64 p, .bool b] 139)).alloc (.cells #[.int .i64 s', .int .i64 c', .int .i64 f', .int .i64 p', .bool b'] 139)) (w.heap.size + 1) ⟨s', c', f', p', b'⟩ := by
  have h := Blk.new (w.alloc (.cells #[.int .i64 s, .int .i64 c, .int .i64 f, .int .i64 p, .bool b] 139)) s' c' f' p' b'
  rw [show (w.alloc (.cells #[.int .i64 s, .int .i64 c, .int .i64 f, .int .i64 p, .bool b] 139)).heap.size = w.heap.size + 1 from by simp] at h
  exact ⟨(Blk.new w s c f p b).below ((Below.refl _ _).alloc (Nat.le_refl _) _), h⟩

/-- the part of an area from one page to another one -/
def partV (a : Ar) (x y : Int) : Option Ar := if max x a.st ≥ min y (a.st + a.cn) then none else some ⟨max x a.st, min y (a.st + a.cn) - max x a.st, a.fi, a.pg + (max x a.st - a.st), a.wr⟩
set_option maxHeartbeats 2000000 in
theorem part_any (a : Ar) (x y : Int) (w : World) (ha : rightB a = true) (hx : 0 ≤ x) (hx2 : x ≤ 1000) (hy : 0 ≤ y) (hy2 : y ≤ 1000) :
    Calls Tryz.prog 136 #[arVal a, .int .i64 x, .int .i64 y] w (RetW (.tuple #[arVal (optA (partV a x y)), .bool (partV a x y).isSome]) w) := by
  have hr := rightB_iff.1 ha
  clear ha
  obtain ⟨s, c, f, p, b⟩ := a
  unfold arVal
  simp only at hr
  obtain ⟨e1, e2, e3, e4, e5, e6, e7⟩ := hr
  have HE := Lib.hid (fun w => end_any ⟨s, c, f, p, b⟩ w (by simp only; omega) (by simp only; omega))
  simp only at HE
  have hP : partV ⟨s, c, f, p, b⟩ x y = if max x s ≥ min y (s + c) then none else some ⟨max x s, min y (s + c) - max x s, f, p + (max x s - s), b⟩ := rfl
  have HP := Lib.hid hP
  clear hP
  generalize partV ⟨s, c, f, p, b⟩ x y = o at *
  have hlo : ∃ lo, lo = max x s := ⟨_, rfl⟩
  have hhi : ∃ hi, hi = min y (s + c) := ⟨_, rfl⟩
  obtain ⟨lo, hlo⟩ := hlo
  obtain ⟨hi, hhi⟩ := hhi
  have b1 : 0 ≤ lo := by omega
  have b2 : lo ≤ 1000 := by omega
  have b3 : 0 ≤ hi := by omega
  have b4 : hi ≤ 1000 := by omega
  rw [← hlo, ← hhi] at HP
  go_enter Tryz.func136, Tryz.ntmps136
  go_wp2_with fail
  obtain ⟨h1, h2⟩ := Blk.two w s c f p b 0 0 0 0 false
  have HB : Hid (Below w.heap.size w ((w.alloc (Obj.cells #[Value.int IntKind.i64 s, Value.int IntKind.i64 c, Value.int IntKind.i64 f, Value.int IntKind.i64 p, Value.bool b] 139)).alloc (Obj.cells #[Value.int IntKind.i64 0, Value.int IntKind.i64 0, Value.int IntKind.i64 0, Value.int IntKind.i64 0, Value.bool false] 139))) := ((Below.refl _ w).alloc (Nat.le_refl _) _).alloc (by simp) _
  generalize (w.alloc (Obj.cells #[Value.int IntKind.i64 s, Value.int IntKind.i64 c, Value.int IntKind.i64 f, Value.int IntKind.i64 p, Value.bool b] 139)).alloc (Obj.cells #[Value.int IntKind.i64 0, Value.int IntKind.i64 0, Value.int IntKind.i64 0, Value.int IntKind.i64 0, Value.bool false] 139) = W0 at *
  have c0 := h1.c0; have c1 := h1.c1; have c2 := h1.c2; have c3 := h1.c3; have c4 := h1.c4
  simp only at c0 c1 c2 c3 c4
  have HPB := Lib.hid (h1.below (Below.refl _ _).drew)
  have HZ := Lib.hid (h2.below (Below.refl _ _).drew)
  replace HB := Lib.hid HB.out.drew
  clear h1 h2
  go_region_held3 (fun w' => w'.cell? ⟨w.heap.size, 0, none⟩ = some (.int .i64 s) ∧ w'.cell? ⟨w.heap.size, 1, none⟩ = some (.int .i64 c) ∧ w'.cell? ⟨w.heap.size, 2, none⟩ = some (.int .i64 f) ∧ w'.cell? ⟨w.heap.size, 3, none⟩ = some (.int .i64 p) ∧ w'.cell? ⟨w.heap.size, 4, none⟩ = some (.bool b)) (go_keep) (first | (go_at_call 133; refine (HE.out _).mono ?_; rintro e w3 ⟨rfl, hb⟩; replace HPB := Lib.hid (HPB.out.below hb); replace HZ := Lib.hid (HZ.out.below hb); replace HB := Lib.hid (HB.out.trans (hb.mono HB.out.size)); have j0 := HPB.out.c0; have j1 := HPB.out.c1; have j2 := HPB.out.c2; have j3 := HPB.out.c3; have j4 := HPB.out.c4; simp only at j0 j1 j2 j3 j4))
  all_goals
    clear c0 c1 c2 c3 c4
    rw [← hlo, ← hhi]
    clear hlo hhi hb
    have y0 := HPB.out.f 0 (by omega); have y1 := HPB.out.f 1 (by omega); have y2 := HPB.out.f 2 (by omega); have y3 := HPB.out.f 3 (by omega); have y4 := HPB.out.f 4 (by omega)
    have z0 := HZ.out.c0; have z1 := HZ.out.c1; have z2 := HZ.out.c2; have z3 := HZ.out.c3; have z4 := HZ.out.c4
    have x0 := HZ.out.f 0 (by omega); have x1 := HZ.out.f 1 (by omega); have x2 := HZ.out.f 2 (by omega); have x3 := HZ.out.f 3 (by omega); have x4 := HZ.out.f 4 (by omega)
    simp only at z0 z1 z2 z3 z4
    by_cases hge : lo ≥ hi
    · rw [if_pos hge] at HP
      have hv := HP.out
      subst hv
      go_wp2_with fail
      have HD := HZ.out.put 0 0 0 0 false
      have HBD := HB.out.trans (put5w_below (B := w.heap.size) _ (w.heap.size + 1) 0 0 0 0 false (Nat.le_succ _))
      unfold put5w at HD HBD
      generalize (((((w3).setCell { block := w.heap.size + 1, off := 0 } (Value.int IntKind.i64 0)).setCell { block := w.heap.size + 1, off := 1 } (Value.int IntKind.i64 0)).setCell { block := w.heap.size + 1, off := 2 } (Value.int IntKind.i64 0)).setCell { block := w.heap.size + 1, off := 3 } (Value.int IntKind.i64 0)).setCell { block := w.heap.size + 1, off := 4 } (Value.bool false) = W9 at *
      have d0 := HD.c0; have d1 := HD.c1; have d2 := HD.c2; have d3 := HD.c3; have d4 := HD.c4
      simp only at d0 d1 d2 d3 d4
      refine bodyPost_ret (v := .tuple #[.agg #[.int .i64 0, .int .i64 0, .int .i64 0, .int .i64 0, .bool false], .bool false]) (by simp [results, Tryz.results136, go_sem, d0, d1, d2, d3, d4]) rfl ⟨by rw [show optA none = Ar.zero from rfl]; rfl, HBD⟩
    · rw [if_neg hge] at HP
      have hv := HP.out
      subst hv
      have hw1 : IntKind.i64.wrap (lo - s) = lo - s := IntWalk.i64_in _ (by omega)
      have hw2 : IntKind.i64.wrap (p + (lo - s)) = p + (lo - s) := IntWalk.i64_in _ (by omega)
      have hw3 : IntKind.i64.wrap (hi - lo) = hi - lo := IntWalk.i64_in _ (by omega)
      have hlt : lo < hi := by omega
      go_wp2_with fail
      have HZ3 := ((HZ.out.setOther w.heap.size 3 (Value.int IntKind.i64 (p + (lo - s))) (by omega)).setOther w.heap.size 0 (Value.int IntKind.i64 lo) (by omega)).setOther w.heap.size 1 (Value.int IntKind.i64 (hi - lo)) (by omega)
      have HB3 := ((HB.out.setCell (p := ⟨w.heap.size, 3, none⟩) (Nat.le_refl _) (Value.int IntKind.i64 (p + (lo - s)))).setCell (p := ⟨w.heap.size, 0, none⟩) (Nat.le_refl _) (Value.int IntKind.i64 lo)).setCell (p := ⟨w.heap.size, 1, none⟩) (Nat.le_refl _) (Value.int IntKind.i64 (hi - lo))
      generalize ((w3.setCell { block := w.heap.size, off := 3 } (Value.int IntKind.i64 (p + (lo - s)))).setCell { block := w.heap.size, off := 0 } (Value.int IntKind.i64 lo)).setCell { block := w.heap.size, off := 1 } (Value.int IntKind.i64 (hi - lo)) = W4 at *
      have HD := HZ3.put lo (hi - lo) f (p + (lo - s)) b
      have HBD := HB3.trans (put5w_below (B := w.heap.size) W4 (w.heap.size + 1) lo (hi - lo) f (p + (lo - s)) b (Nat.le_succ _))
      unfold put5w at HD HBD
      generalize ((((W4.setCell { block := w.heap.size + 1, off := 0 } (Value.int IntKind.i64 lo)).setCell { block := w.heap.size + 1, off := 1 } (Value.int IntKind.i64 (hi - lo))).setCell { block := w.heap.size + 1, off := 2 } (Value.int IntKind.i64 f)).setCell { block := w.heap.size + 1, off := 3 } (Value.int IntKind.i64 (p + (lo - s)))).setCell { block := w.heap.size + 1, off := 4 } (Value.bool b) = W9 at *
      have d0 := HD.c0; have d1 := HD.c1; have d2 := HD.c2; have d3 := HD.c3; have d4 := HD.c4
      simp only at d0 d1 d2 d3 d4
      refine bodyPost_ret (v := .tuple #[.agg #[.int .i64 lo, .int .i64 (hi - lo), .int .i64 f, .int .i64 (p + (lo - s)), .bool b], .bool true]) (by simp [results, Tryz.results136, go_sem, d0, d1, d2, d3, d4]) rfl ⟨rfl, HBD⟩
end Go.Proofs.YtimhaidiclbnhaaGreat.Ara
