/- Finding an entry. -/
import Derived.Test.YtodonnagmgbliaaBs
namespace Go.Proofs.Ytodonnagmgbliaa
open Go.ChangeShapes Go.WideShapes Go.ChangeAt Go.RowKit

def keyB (pr pa : Int) (x : Ar) : Bool := decide (x.pr = pr ∧ x.pa = pa)
def getV (l : List Ar) (pr pa : Int) : Option Ar := if checkV l = true then l.find? (keyB pr pa) else none
def optA (o : Option Ar) : Ar := o.getD Ar.zero
theorem find_hit {l : List Ar} {f : Ar → Bool} {k : Nat} (hk : k < l.length) (h : ∀ j, j < k → f (l.getD j Ar.zero) = false) (hi : f (l.getD k Ar.zero) = true) : l.find? f = some (l.getD k Ar.zero) := by
  have hg : ∀ j (hj : j < l.length), l.getD j Ar.zero = l[j] := fun j hj => by simp [List.getD, hj]
  rw [List.find?_eq_some_iff_getElem]
  rw [hg k hk] at hi ⊢
  refine ⟨hi, k, hk, rfl, fun j hj => ?_⟩
  have := h j hj
  rw [hg j (by omega)] at this
  simp [this]
theorem find_miss {l : List Ar} {f : Ar → Bool} (h : ∀ j, j < l.length → f (l.getD j Ar.zero) = false) : l.find? f = none := by
  rw [List.find?_eq_none]
  intro x hx
  obtain ⟨j, hj, rfl⟩ := List.mem_iff_getElem.1 hx
  have := h j hj
  rw [show l.getD j Ar.zero = l[j] from by simp [List.getD, hj]] at this
  simp [this]
theorem key_less {x e : Ar} (h : lessB x e = true) : keyB e.pr e.pa x = false := by
  rw [lessB_iff] at h
  exact decide_eq_false (by omega)
theorem key_more {x e : Ar} (h : lessB e x = true) : keyB e.pr e.pa x = false := by
  rw [lessB_iff] at h
  exact decide_eq_false (by omega)
theorem place_hit {l : List Ar} {e : Ar} {i : Nat} (h : Place l e i) (hf : foundB l e i = true) : i < l.length ∧ l.find? (keyB e.pr e.pa) = some (l.getD i Ar.zero) := by
  unfold foundB at hf
  rw [Bool.and_eq_true] at hf
  have hi := of_decide_eq_true hf.1
  exact ⟨hi, find_hit hi (fun j hj => key_less (h.2.1 j hj)) hf.2⟩
theorem place_miss {l : List Ar} {e : Ar} {i : Nat} (h : Place l e i) (hs : Sorted l) (hf : foundB l e i = false) : l.find? (keyB e.pr e.pa) = none := by
  refine find_miss fun j hj => ?_
  by_cases h1 : j < i
  · exact key_less (h.2.1 j h1)
  · have hi : i < l.length := by omega
    unfold foundB at hf
    rw [decide_eq_true hi, Bool.true_and] at hf
    have hne := of_decide_eq_false hf
    have hge := h.2.2 i (Nat.le_refl _) hi
    have hmore : lessB e (l.getD i Ar.zero) = true := by
      rw [lessB_iff]
      have : ¬ ((l.getD i Ar.zero).pr < e.pr ∨ (l.getD i Ar.zero).pr = e.pr ∧ (l.getD i Ar.zero).pa < e.pa) := fun hh => by rw [lessB_iff.2 hh] at hge; cases hge
      omega
    by_cases e1 : j = i
    · rw [e1]; exact key_more hmore
    · exact key_more (lessB_trans hmore (hs i j (by omega) hj))

/-- an area laid into block g -/
def put5w (W : World) (g : Nat) (s c f : Int) (p b : Bool) : World :=
  ((((W.setCell ⟨g, 0, none⟩ (.int .i64 s)).setCell ⟨g, 1, none⟩ (.int .i64 c)).setCell ⟨g, 2, none⟩ (.int .i64 f)).setCell ⟨g, 3, none⟩ (.bool p)).setCell ⟨g, 4, none⟩ (.bool b)
theorem put5w_below {B : Nat} (W : World) (g : Nat) (s c f : Int) (p b : Bool) (h : B ≤ g) : Below B W (put5w W g s c f p b) :=
  (((((Below.refl B W).setCell (p := ⟨g, 0, none⟩) h _).setCell (p := ⟨g, 1, none⟩) h _).setCell (p := ⟨g, 2, none⟩) h _).setCell (p := ⟨g, 3, none⟩) h _).setCell (p := ⟨g, 4, none⟩) h _
theorem put5w_other (W : World) (g : Nat) (s c f : Int) (p b : Bool) (g2 o : Nat) (h : g2 ≠ g) : (put5w W g s c f p b).cell? ⟨g2, o, none⟩ = W.cell? ⟨g2, o, none⟩ := by
  unfold put5w
  rw [World.cell?_setCell_other _ _ _ _ (by intro e; cases e; exact h rfl), World.cell?_setCell_other _ _ _ _ (by intro e; cases e; exact h rfl), World.cell?_setCell_other _ _ _ _ (by intro e; cases e; exact h rfl), World.cell?_setCell_other _ _ _ _ (by intro e; cases e; exact h rfl), World.cell?_setCell_other _ _ _ _ (by intro e; cases e; exact h rfl)]
theorem put5w_frozen (W : World) (g : Nat) (s c f : Int) (p b : Bool) (x : Addr) : (put5w W g s c f p b).frozen? x = W.frozen? x := by
  unfold put5w
  rw [World.frozen?_setCell, World.frozen?_setCell, World.frozen?_setCell, World.frozen?_setCell, World.frozen?_setCell]
theorem put5w_size (W : World) (g : Nat) (s c f : Int) (p b : Bool) : (put5w W g s c f p b).heap.size = W.heap.size := by simp [put5w, World.setCell]
theorem Blk.put {W : World} {g : Nat} {a : Ar} (h : Blk W g a) (s c f : Int) (p b : Bool) : Blk (put5w W g s c f p b) g ⟨s, c, f, p, b⟩ := by
  have a1 : (W.setCell ⟨g, 0, none⟩ (.int .i64 s)).cell? ⟨g, 1, none⟩ = some (.int .i64 a.pa) := by rw [World.cell?_setCell_other _ _ _ _ (by simp)]; exact h.c1
  have a2 : ((W.setCell ⟨g, 0, none⟩ (.int .i64 s)).setCell ⟨g, 1, none⟩ (.int .i64 c)).cell? ⟨g, 2, none⟩ = some (.int .i64 a.fr) := by rw [World.cell?_setCell_other _ _ _ _ (by simp), World.cell?_setCell_other _ _ _ _ (by simp)]; exact h.c2
  have a3 : (((W.setCell ⟨g, 0, none⟩ (.int .i64 s)).setCell ⟨g, 1, none⟩ (.int .i64 c)).setCell ⟨g, 2, none⟩ (.int .i64 f)).cell? ⟨g, 3, none⟩ = some (.bool a.wr) := by rw [World.cell?_setCell_other _ _ _ _ (by simp), World.cell?_setCell_other _ _ _ _ (by simp), World.cell?_setCell_other _ _ _ _ (by simp)]; exact h.c3
  have a4 : ((((W.setCell ⟨g, 0, none⟩ (.int .i64 s)).setCell ⟨g, 1, none⟩ (.int .i64 c)).setCell ⟨g, 2, none⟩ (.int .i64 f)).setCell ⟨g, 3, none⟩ (.bool p)).cell? ⟨g, 4, none⟩ = some (.bool a.ac) := by rw [World.cell?_setCell_other _ _ _ _ (by simp), World.cell?_setCell_other _ _ _ _ (by simp), World.cell?_setCell_other _ _ _ _ (by simp), World.cell?_setCell_other _ _ _ _ (by simp)]; exact h.c4
  refine ⟨by rw [put5w_size]; exact h.hi, ?_, ?_, ?_, ?_, World.cell?_setCell_same _ _ _ a4, fun i hi => by rw [put5w_frozen]; exact h.f i hi⟩
  · unfold put5w
    rw [World.cell?_setCell_other _ _ _ _ (by simp), World.cell?_setCell_other _ _ _ _ (by simp), World.cell?_setCell_other _ _ _ _ (by simp), World.cell?_setCell_other _ _ _ _ (by simp)]
    exact World.cell?_setCell_same _ _ _ h.c0
  · unfold put5w
    rw [World.cell?_setCell_other _ _ _ _ (by simp), World.cell?_setCell_other _ _ _ _ (by simp), World.cell?_setCell_other _ _ _ _ (by simp)]
    exact World.cell?_setCell_same _ _ _ a1
  · unfold put5w
    rw [World.cell?_setCell_other _ _ _ _ (by simp), World.cell?_setCell_other _ _ _ _ (by simp)]
    exact World.cell?_setCell_same _ _ _ a2
  · unfold put5w
    rw [World.cell?_setCell_other _ _ _ _ (by simp)]
    exact World.cell?_setCell_same _ _ _ a3
theorem Blk.other {W : World} {g g2 : Nat} {a : Ar} (h : Blk W g2 a) (hne : g2 ≠ g) (s c f : Int) (p b : Bool) : Blk (put5w W g s c f p b) g2 a :=
  ⟨by rw [put5w_size]; exact h.hi, by rw [put5w_other _ _ _ _ _ _ _ _ _ hne]; exact h.c0, by rw [put5w_other _ _ _ _ _ _ _ _ _ hne]; exact h.c1, by rw [put5w_other _ _ _ _ _ _ _ _ _ hne]; exact h.c2, by rw [put5w_other _ _ _ _ _ _ _ _ _ hne]; exact h.c3, by rw [put5w_other _ _ _ _ _ _ _ _ _ hne]; exact h.c4, fun i hi => by rw [put5w_frozen]; exact h.f i hi⟩


set_option maxHeartbeats 4000000 in
theorem get_any (B : Nat) (a : Option Addr) (l : List Ar) (cap : Nat) (pr pa : Int) (w : World) (h : ARow B a cap l w) (hl : l.length ≤ 100) :
    Calls Try.prog 12 #[.slice a l.length cap, .int .i64 pr, .int .i64 pa] w (RetW (.tuple #[arVal (optA (getV l pr pa)), .bool (getV l pr pa).isSome]) w) := by
  have HA : Hid (∀ W, Below w.heap.size w W → ∀ j, j < l.length → ∃ g, a = some ⟨g, 0, none⟩ ∧ g < W.heap.size ∧ (l.length : Int) ≤ cap ∧ Cel W g (j * 5) (l.getD j Ar.zero)) := by
    intro W hb j hj
    obtain ⟨g, h1, h2, h3, h4, h5, h6⟩ := (h.below hb).at (by omega)
    exact ⟨g, h1, h3, by omega, h6 j hj⟩
  have HC : Hid (∀ W, Below w.heap.size w W → Calls Try.prog 16 #[.slice a l.length cap] W (RetW (.bool (checkV l)) W)) := fun W hb => check_any B a l cap W (h.below hb) hl
  have HS : Hid (checkV l = true → ∀ W, Below w.heap.size w W → Calls Try.prog 33 #[.slice a l.length cap, arVal ⟨pr, pa, 0, false, false⟩, .func (.func 34) #[] #[]] W fun e' w' => ∃ i : Nat, Place l ⟨pr, pa, 0, false, false⟩ i ∧ e' = .returned (.tuple #[.int .i64 i, .bool (foundB l ⟨pr, pa, 0, false, false⟩ i)]) ∧ Below W.heap.size W w') :=
    fun hc W hb => bsearch_any B a l cap _ W (h.below hb) hl (checkV_sorted hc)
  have HH : Hid (checkV l = true → ∀ i, Place l ⟨pr, pa, 0, false, false⟩ i → foundB l ⟨pr, pa, 0, false, false⟩ i = true → i < l.length ∧ getV l pr pa = some (l.getD i Ar.zero)) := fun hc i hp hf => by
    unfold getV; rw [if_pos hc]; exact place_hit hp hf
  have HM : Hid (checkV l = true → ∀ i, Place l ⟨pr, pa, 0, false, false⟩ i → foundB l ⟨pr, pa, 0, false, false⟩ i = false → getV l pr pa = none) := fun hc i hp hf => by
    unfold getV; rw [if_pos hc]; exact place_miss hp (checkV_sorted hc) hf
  have HN : Hid (checkV l = false → getV l pr pa = none) := fun hc => by unfold getV; rw [hc]; rfl
  clear h
  go_enter Try.func12, Try.ntmps12
  go_wp2_with fail
  have hz := Blk.new w 0 0 0 false false
  have HB : Hid (Below w.heap.size w (w.alloc (Obj.cells #[Value.int IntKind.i64 0, Value.int IntKind.i64 0, Value.int IntKind.i64 0, Value.bool false, Value.bool false] 30))) := (Below.refl _ w).alloc (Nat.le_refl _) _
  generalize w.alloc (Obj.cells #[Value.int IntKind.i64 0, Value.int IntKind.i64 0, Value.int IntKind.i64 0, Value.bool false, Value.bool false] 30) = w1 at *
  refine (HC.out _ HB.out).mono ?_; rintro e w2 ⟨rfl, hb⟩
  replace hz := hz.below hb
  replace HB := Lib.hid (HB.out.trans (hb.mono HB.out.size))
  have HZ := Lib.hid hz
  clear hb hz HC
  cases hcv : checkV l with
  | false =>
    have hv := HN.out hcv
    have z0 := HZ.out.c0; have z1 := HZ.out.c1; have z2 := HZ.out.c2; have z3 := HZ.out.c3; have z4 := HZ.out.c4
    have y0 := HZ.out.f 0 (by omega); have y1 := HZ.out.f 1 (by omega); have y2 := HZ.out.f 2 (by omega); have y3 := HZ.out.f 3 (by omega); have y4 := HZ.out.f 4 (by omega)
    simp only at z0 z1 z2 z3 z4
    go_wp2_with fail
    have HD := HZ.out.put 0 0 0 false false
    have HBD := HB.out.trans (put5w_below (B := w.heap.size) w2 w.heap.size 0 0 0 false false (Nat.le_refl _))
    unfold put5w at HD HBD
    generalize (((((w2.setCell { block := w.heap.size, off := 0 } (Value.int IntKind.i64 0)).setCell { block := w.heap.size, off := 1 } (Value.int IntKind.i64 0)).setCell { block := w.heap.size, off := 2 } (Value.int IntKind.i64 0)).setCell { block := w.heap.size, off := 3 } (Value.bool false)).setCell { block := w.heap.size, off := 4 } (Value.bool false)) = W9 at *
    have d0 := HD.c0; have d1 := HD.c1; have d2 := HD.c2; have d3 := HD.c3; have d4 := HD.c4
    simp only at d0 d1 d2 d3 d4
    refine bodyPost_ret (v := .tuple #[.agg #[.int .i64 0, .int .i64 0, .int .i64 0, .bool false, .bool false], .bool false]) (by simp [results, Try.results12, go_sem, d0, d1, d2, d3, d4]) rfl ⟨by rw [hv]; rfl, HBD⟩
  | true =>
    have HS2 := Lib.hid (HS.out hcv); have HM2 := Lib.hid (HM.out hcv); have HH2 := Lib.hid (HH.out hcv)
    clear HS HM HH HN hcv
    unfold arVal at HS2
    go_wp2_with fail
    refine (HS2.out _ HB.out).mono ?_; rintro e w3 ⟨i, hpl, rfl, hb⟩
    replace HZ := Lib.hid (HZ.out.below hb)
    replace HB := Lib.hid (HB.out.trans (hb.mono HB.out.size))
    have HPL := Lib.hid hpl
    clear hb hpl
    cases hf : foundB l ⟨pr, pa, 0, false, false⟩ i with
    | false =>
      have hv := HM2.out i HPL.out hf
      clear hf
      have z0 := HZ.out.c0; have z1 := HZ.out.c1; have z2 := HZ.out.c2; have z3 := HZ.out.c3; have z4 := HZ.out.c4
      have y0 := HZ.out.f 0 (by omega); have y1 := HZ.out.f 1 (by omega); have y2 := HZ.out.f 2 (by omega); have y3 := HZ.out.f 3 (by omega); have y4 := HZ.out.f 4 (by omega)
      simp only at z0 z1 z2 z3 z4
      go_wp2_with fail
      have HD := HZ.out.put 0 0 0 false false
      have HBD := HB.out.trans (put5w_below (B := w.heap.size) w3 w.heap.size 0 0 0 false false (Nat.le_refl _))
      unfold put5w at HD HBD
      generalize (((((w3.setCell { block := w.heap.size, off := 0 } (Value.int IntKind.i64 0)).setCell { block := w.heap.size, off := 1 } (Value.int IntKind.i64 0)).setCell { block := w.heap.size, off := 2 } (Value.int IntKind.i64 0)).setCell { block := w.heap.size, off := 3 } (Value.bool false)).setCell { block := w.heap.size, off := 4 } (Value.bool false)) = W9 at *
      have d0 := HD.c0; have d1 := HD.c1; have d2 := HD.c2; have d3 := HD.c3; have d4 := HD.c4
      simp only at d0 d1 d2 d3 d4
      refine bodyPost_ret (v := .tuple #[.agg #[.int .i64 0, .int .i64 0, .int .i64 0, .bool false, .bool false], .bool false]) (by simp [results, Try.results12, go_sem, d0, d1, d2, d3, d4]) rfl ⟨by rw [hv]; rfl, HBD⟩
    | true =>
      obtain ⟨hlt, hv⟩ := HH2.out i HPL.out hf
      clear hf
      have HV := Lib.hid hv
      clear hv
      obtain ⟨g, rfl, hg, hcap, hcel⟩ := HA.out _ HB.out i hlt
      have hlt' : (i : Int) < (l.length : Int) := by omega
      clear HA HH2 HM2 HPL
      generalize l.getD i Ar.zero = e at *
      obtain ⟨s, c, f, p, q⟩ := e
      obtain ⟨k0, k1, k2, k3, k4⟩ := hcel
      simp only at k0 k1 k2 k3 k4
      have z0 := HZ.out.c0; have z1 := HZ.out.c1; have z2 := HZ.out.c2; have z3 := HZ.out.c3; have z4 := HZ.out.c4
      have y0 := HZ.out.f 0 (by omega); have y1 := HZ.out.f 1 (by omega); have y2 := HZ.out.f 2 (by omega); have y3 := HZ.out.f 3 (by omega); have y4 := HZ.out.f 4 (by omega)
      simp only at z0 z1 z2 z3 z4
      go_wp2_with fail
      have HD := HZ.out.put s c f p q
      have HBD := HB.out.trans (put5w_below (B := w.heap.size) w3 w.heap.size s c f p q (Nat.le_refl _))
      unfold put5w at HD HBD
      generalize (((((w3.setCell { block := w.heap.size, off := 0 } (Value.int IntKind.i64 s)).setCell { block := w.heap.size, off := 1 } (Value.int IntKind.i64 c)).setCell { block := w.heap.size, off := 2 } (Value.int IntKind.i64 f)).setCell { block := w.heap.size, off := 3 } (Value.bool p)).setCell { block := w.heap.size, off := 4 } (Value.bool q)) = W9 at *
      have d0 := HD.c0; have d1 := HD.c1; have d2 := HD.c2; have d3 := HD.c3; have d4 := HD.c4
      simp only at d0 d1 d2 d3 d4
      refine bodyPost_ret (v := .tuple #[.agg #[.int .i64 s, .int .i64 c, .int .i64 f, .bool p, .bool q], .bool true]) (by simp [results, Try.results12, go_sem, d0, d1, d2, d3, d4]) rfl ⟨by rw [HV.out]; rfl, HBD⟩

set_option maxHeartbeats 4000000 in
theorem getR_any (B : Nat) (a : Option Addr) (l : List Ar) (cap : Nat) (pr pa : Int) (w : World) (h : ARow B a cap l w) (hl : l.length ≤ 100) :
    Calls Try.prog 13 #[.slice a l.length cap, .int .i64 pr, .int .i64 pa] w (RetW (.tuple #[arVal (optA (getV l pr pa)), .bool (getV l pr pa).isSome]) w) := by
  have HA : Hid (∀ W, Below w.heap.size w W → ∀ j, j < l.length → ∃ g, a = some ⟨g, 0, none⟩ ∧ g < W.heap.size ∧ (l.length : Int) ≤ cap ∧ Cel W g (j * 5) (l.getD j Ar.zero)) := by
    intro W hb j hj
    obtain ⟨g, h1, h2, h3, h4, h5, h6⟩ := (h.below hb).at (by omega)
    exact ⟨g, h1, h3, by omega, h6 j hj⟩
  have HC : Hid (∀ W, Below w.heap.size w W → Calls Try.prog 17 #[.slice a l.length cap] W (RetW (.bool (checkV l)) W)) := fun W hb => checkR_any B a l cap W (h.below hb) hl
  have HM : Hid (checkV l = true → (∀ j, j < l.length → keyB pr pa (l.getD j Ar.zero) = false) → getV l pr pa = none) := fun hc hm => by unfold getV; rw [if_pos hc]; exact find_miss hm
  have HH : Hid (checkV l = true → ∀ k, k < l.length → (∀ j, j < k → keyB pr pa (l.getD j Ar.zero) = false) → keyB pr pa (l.getD k Ar.zero) = true → getV l pr pa = some (l.getD k Ar.zero)) := fun hc k hk hm hi => by unfold getV; rw [if_pos hc]; exact find_hit hk hm hi
  have HN : Hid (checkV l = false → getV l pr pa = none) := fun hc => by unfold getV; rw [hc]; rfl
  clear h
  go_enter Try.func13, Try.ntmps13
  go_wp2_with fail
  have hz := Blk.new w 0 0 0 false false
  have HB : Hid (Below w.heap.size w (w.alloc (Obj.cells #[Value.int IntKind.i64 0, Value.int IntKind.i64 0, Value.int IntKind.i64 0, Value.bool false, Value.bool false] 30))) := (Below.refl _ w).alloc (Nat.le_refl _) _
  generalize w.alloc (Obj.cells #[Value.int IntKind.i64 0, Value.int IntKind.i64 0, Value.int IntKind.i64 0, Value.bool false, Value.bool false] 30) = w1 at *
  refine (HC.out _ HB.out).mono ?_; rintro e w2 ⟨rfl, hb⟩
  replace hz := hz.below hb
  replace HB := Lib.hid (HB.out.trans (hb.mono HB.out.size))
  have HZ := Lib.hid hz
  clear hb hz HC
  cases hcv : checkV l with
  | false =>
    have hv := HN.out hcv
    have z0 := HZ.out.c0; have z1 := HZ.out.c1; have z2 := HZ.out.c2; have z3 := HZ.out.c3; have z4 := HZ.out.c4
    have y0 := HZ.out.f 0 (by omega); have y1 := HZ.out.f 1 (by omega); have y2 := HZ.out.f 2 (by omega); have y3 := HZ.out.f 3 (by omega); have y4 := HZ.out.f 4 (by omega)
    simp only at z0 z1 z2 z3 z4
    go_wp2_with fail
    have HD := HZ.out.put 0 0 0 false false
    have HBD := HB.out.trans (put5w_below (B := w.heap.size) w2 w.heap.size 0 0 0 false false (Nat.le_refl _))
    unfold put5w at HD HBD
    generalize (((((w2.setCell { block := w.heap.size, off := 0 } (Value.int IntKind.i64 0)).setCell { block := w.heap.size, off := 1 } (Value.int IntKind.i64 0)).setCell { block := w.heap.size, off := 2 } (Value.int IntKind.i64 0)).setCell { block := w.heap.size, off := 3 } (Value.bool false)).setCell { block := w.heap.size, off := 4 } (Value.bool false)) = W9 at *
    have d0 := HD.c0; have d1 := HD.c1; have d2 := HD.c2; have d3 := HD.c3; have d4 := HD.c4
    simp only at d0 d1 d2 d3 d4
    refine bodyPost_ret (v := .tuple #[.agg #[.int .i64 0, .int .i64 0, .int .i64 0, .bool false, .bool false], .bool false]) (by simp [results, Try.results13, go_sem, d0, d1, d2, d3, d4]) rfl ⟨by rw [hv]; rfl, HBD⟩
  | true =>
    have HM2 := Lib.hid (HM.out hcv); have HH2 := Lib.hid (HH.out hcv)
    clear HM HH HN hcv
    have z0 := HZ.out.c0; have z1 := HZ.out.c1; have z2 := HZ.out.c2; have z3 := HZ.out.c3; have z4 := HZ.out.c4
    have y0 := HZ.out.f 0 (by omega); have y1 := HZ.out.f 1 (by omega); have y2 := HZ.out.f 2 (by omega); have y3 := HZ.out.f 3 (by omega); have y4 := HZ.out.f 4 (by omega)
    simp only at z0 z1 z2 z3 z4
    go_wp2_with fail
    go_loopw [8] (fun v8 wr => ∃ k : Nat, k ≤ l.length ∧ v8 = .int .i64 k ∧ wr = w2 ∧ Hid (∀ j, j < k → keyB pr pa (l.getD j Ar.zero) = false)) (fun v8 _ => 200 - (intOf v8).toNat)
    case atStart => exact ⟨0, Nat.zero_le _, rfl, rfl, fun j hj => absurd hj (Nat.not_lt_zero _)⟩
    case round =>
      obtain ⟨k, hk, rfl, rfl, HF⟩ := hrel
      by_cases hlt : k < l.length
      · have hlt' : (k : Int) < (l.length : Int) := by omega
        obtain ⟨g, rfl, hg, hcap, hcel⟩ := HA.out _ HB.out k hlt
        have HHH := Lib.hid (HH2.out k hlt HF.out)
        have HNX : Hid (keyB pr pa (l.getD k Ar.zero) = false → ∀ j, j < k + 1 → keyB pr pa (l.getD j Ar.zero) = false) := fun h j hj => by
          by_cases e : j = k
          · rw [e]; exact h
          · exact HF.out j (by omega)
        clear HA
        generalize l.getD k Ar.zero = e at *
        obtain ⟨s, c, f, p, q⟩ := e
        obtain ⟨k0, k1, k2, k3, k4⟩ := hcel
        simp only at k0 k1 k2 k3 k4
        have hin : keyB pr pa ⟨s, c, f, p, q⟩ = decide (s = pr ∧ c = pa) := rfl
        rw [hin] at HNX HHH
        clear hin
        by_cases h1 : s = pr
        · by_cases h2 : c = pa
          · have HV := Lib.hid (HHH.out (decide_eq_true ⟨h1, h2⟩))
            clear HNX HHH
            subst h1; subst h2
            go_wp2_with fail
            have HD := HZ.out.put s c f p q
            have HBD := HB.out.trans (put5w_below (B := w.heap.size) wr w.heap.size s c f p q (Nat.le_refl _))
            unfold put5w at HD HBD
            generalize (((((wr.setCell { block := w.heap.size, off := 0 } (Value.int IntKind.i64 s)).setCell { block := w.heap.size, off := 1 } (Value.int IntKind.i64 c)).setCell { block := w.heap.size, off := 2 } (Value.int IntKind.i64 f)).setCell { block := w.heap.size, off := 3 } (Value.bool p)).setCell { block := w.heap.size, off := 4 } (Value.bool q)) = W9 at *
            have d0 := HD.c0; have d1 := HD.c1; have d2 := HD.c2; have d3 := HD.c3; have d4 := HD.c4
            simp only at d0 d1 d2 d3 d4
            refine bodyPost_ret (v := .tuple #[.agg #[.int .i64 s, .int .i64 c, .int .i64 f, .bool p, .bool q], .bool true]) (by simp [results, Try.results13, go_sem, d0, d1, d2, d3, d4]) rfl ⟨by rw [HV.out]; rfl, HBD⟩
          · have HN2 := Lib.hid (HNX.out (decide_eq_false (by omega)))
            clear HNX HHH
            subst h1
            go_wp2_with fail
            go_roundw
            case rel => exact ⟨k + 1, by omega, by go_num, trivial, HN2⟩
            case measure => simp [intOf]; omega
        · have HN2 := Lib.hid (HNX.out (decide_eq_false (by omega)))
          clear HNX HHH
          go_wp2_with fail
          go_roundw
          case rel => exact ⟨k + 1, by omega, by go_num, trivial, HN2⟩
          case measure => simp [intOf]; omega
      · obtain rfl : k = l.length := by omega
        have hv := HM2.out HF.out
        go_wp2_with fail
        have HD := HZ.out.put 0 0 0 false false
        have HBD := HB.out.trans (put5w_below (B := w.heap.size) wr w.heap.size 0 0 0 false false (Nat.le_refl _))
        unfold put5w at HD HBD
        generalize (((((wr.setCell { block := w.heap.size, off := 0 } (Value.int IntKind.i64 0)).setCell { block := w.heap.size, off := 1 } (Value.int IntKind.i64 0)).setCell { block := w.heap.size, off := 2 } (Value.int IntKind.i64 0)).setCell { block := w.heap.size, off := 3 } (Value.bool false)).setCell { block := w.heap.size, off := 4 } (Value.bool false)) = W9 at *
        have d0 := HD.c0; have d1 := HD.c1; have d2 := HD.c2; have d3 := HD.c3; have d4 := HD.c4
        simp only at d0 d1 d2 d3 d4
        refine bodyPost_ret (v := .tuple #[.agg #[.int .i64 0, .int .i64 0, .int .i64 0, .bool false, .bool false], .bool false]) (by simp [results, Try.results13, go_sem, d0, d1, d2, d3, d4]) rfl ⟨by rw [hv]; rfl, HBD⟩
end Go.Proofs.Ytodonnagmgbliaa
