/- Layer 46, shared texts of this seat, part 13. -/
import Derived.Test.YtimhaidiclbnhaaGreatM12
/- Finding an area, and what a page shows. -/
set_option linter.unusedSimpArgs false
set_option linter.unusedVariables false
set_option maxRecDepth 100000
namespace Go.Proofs.YtimhaidiclbnhaaGreat.Ara
open Go.ChangeShapes Go.WideShapes Go.ChangeAt Go.RowKit

theorem check_right {l : List Ar} (h : checkV l = true) : ∀ j, j < l.length → rightB (l.getD j Ar.zero) = true ∧ lastAt l j ≤ (l.getD j Ar.zero).st := by
  intro j hj
  unfold checkV chkTo at h
  have h1 := List.all_eq_true.1 (Bool.and_eq_true _ _ ▸ h).1 j (List.mem_range.2 hj)
  unfold okAt at h1
  have h2 := Bool.and_eq_true _ _ ▸ h1
  exact ⟨h2.1, of_decide_eq_true h2.2⟩
theorem check_len {l : List Ar} (h : checkV l = true) : l.length ≤ 8 := by
  unfold checkV at h
  exact of_decide_eq_true (Bool.and_eq_true _ _ ▸ h).2
def inB (p : Int) (a : Ar) : Bool := decide (a.st ≤ p ∧ p < a.st + a.cn)
def findV (l : List Ar) (p : Int) : Option Ar := if checkV l = true then l.find? (inB p) else none
def arVal (a : Ar) : Value := .agg #[.int .i64 a.st, .int .i64 a.cn, .int .i64 a.fi, .int .i64 a.pg, .bool a.wr]
def optA (o : Option Ar) : Ar := o.getD Ar.zero
theorem find_hit {l : List Ar} {p : Int} {k : Nat} (hk : k < l.length) (h : ∀ j, j < k → inB p (l.getD j Ar.zero) = false) (hi : inB p (l.getD k Ar.zero) = true) : l.find? (inB p) = some (l.getD k Ar.zero) := by
  have hg : ∀ j (hj : j < l.length), l.getD j Ar.zero = l[j] := fun j hj => by simp [List.getD, hj]
  rw [List.find?_eq_some_iff_getElem]
  rw [hg k hk] at hi ⊢
  refine ⟨hi, k, hk, rfl, fun j hj => ?_⟩
  have := h j hj
  rw [hg j (by omega)] at this
  simp [this]
theorem find_miss {l : List Ar} {p : Int} (h : ∀ j, j < l.length → inB p (l.getD j Ar.zero) = false) : l.find? (inB p) = none := by
  rw [List.find?_eq_none]
  intro x hx
  obtain ⟨j, hj, rfl⟩ := List.mem_iff_getElem.1 hx
  have := h j hj
  rw [show l.getD j Ar.zero = l[j] from by simp [List.getD, hj]] at this
  simp [this]

/-- an area laid into block g -/
def put5w (W : World) (g : Nat) (s c f p : Int) (b : Bool) : World :=
  ((((W.setCell ⟨g, 0, none⟩ (.int .i64 s)).setCell ⟨g, 1, none⟩ (.int .i64 c)).setCell ⟨g, 2, none⟩ (.int .i64 f)).setCell ⟨g, 3, none⟩ (.int .i64 p)).setCell ⟨g, 4, none⟩ (.bool b)
theorem put5w_below {B : Nat} (W : World) (g : Nat) (s c f p : Int) (b : Bool) (h : B ≤ g) : Below B W (put5w W g s c f p b) :=
  (((((Below.refl B W).setCell (p := ⟨g, 0, none⟩) h _).setCell (p := ⟨g, 1, none⟩) h _).setCell (p := ⟨g, 2, none⟩) h _).setCell (p := ⟨g, 3, none⟩) h _).setCell (p := ⟨g, 4, none⟩) h _
theorem put5w_other (W : World) (g : Nat) (s c f p : Int) (b : Bool) (g2 o : Nat) (h : g2 ≠ g) : (put5w W g s c f p b).cell? ⟨g2, o, none⟩ = W.cell? ⟨g2, o, none⟩ := by
  unfold put5w
  rw [World.cell?_setCell_other _ _ _ _ (by intro e; cases e; exact h rfl), World.cell?_setCell_other _ _ _ _ (by intro e; cases e; exact h rfl), World.cell?_setCell_other _ _ _ _ (by intro e; cases e; exact h rfl), World.cell?_setCell_other _ _ _ _ (by intro e; cases e; exact h rfl), World.cell?_setCell_other _ _ _ _ (by intro e; cases e; exact h rfl)]
theorem put5w_frozen (W : World) (g : Nat) (s c f p : Int) (b : Bool) (x : Addr) : (put5w W g s c f p b).frozen? x = W.frozen? x := by
  unfold put5w
  rw [World.frozen?_setCell, World.frozen?_setCell, World.frozen?_setCell, World.frozen?_setCell, World.frozen?_setCell]
theorem put5w_size (W : World) (g : Nat) (s c f p : Int) (b : Bool) : (put5w W g s c f p b).heap.size = W.heap.size := by simp [put5w, World.setCell]
theorem Blk.put {W : World} {g : Nat} {a : Ar} (h : Blk W g a) (s c f p : Int) (b : Bool) : Blk (put5w W g s c f p b) g ⟨s, c, f, p, b⟩ := by
  have a1 : (W.setCell ⟨g, 0, none⟩ (.int .i64 s)).cell? ⟨g, 1, none⟩ = some (.int .i64 a.cn) := by rw [World.cell?_setCell_other _ _ _ _ (by simp)]; exact h.c1
  have a2 : ((W.setCell ⟨g, 0, none⟩ (.int .i64 s)).setCell ⟨g, 1, none⟩ (.int .i64 c)).cell? ⟨g, 2, none⟩ = some (.int .i64 a.fi) := by rw [World.cell?_setCell_other _ _ _ _ (by simp), World.cell?_setCell_other _ _ _ _ (by simp)]; exact h.c2
  have a3 : (((W.setCell ⟨g, 0, none⟩ (.int .i64 s)).setCell ⟨g, 1, none⟩ (.int .i64 c)).setCell ⟨g, 2, none⟩ (.int .i64 f)).cell? ⟨g, 3, none⟩ = some (.int .i64 a.pg) := by rw [World.cell?_setCell_other _ _ _ _ (by simp), World.cell?_setCell_other _ _ _ _ (by simp), World.cell?_setCell_other _ _ _ _ (by simp)]; exact h.c3
  have a4 : ((((W.setCell ⟨g, 0, none⟩ (.int .i64 s)).setCell ⟨g, 1, none⟩ (.int .i64 c)).setCell ⟨g, 2, none⟩ (.int .i64 f)).setCell ⟨g, 3, none⟩ (.int .i64 p)).cell? ⟨g, 4, none⟩ = some (.bool a.wr) := by rw [World.cell?_setCell_other _ _ _ _ (by simp), World.cell?_setCell_other _ _ _ _ (by simp), World.cell?_setCell_other _ _ _ _ (by simp), World.cell?_setCell_other _ _ _ _ (by simp)]; exact h.c4
  refine ⟨by rw [put5w_size]; exact h.hi, ?_, ?_, ?_, ?_, World.cell?_setCell_same _ _ _ a4, fun i hi => by rw [put5w_frozen]; exact h.f i hi⟩
  · unfold put5w
    rw [World.cell?_setCell_other _ _ _ _ (by simp), World.cell?_setCell_other _ _ _ _ (by simp), World.cell?_setCell_other _ _ _ _ (by simp), World.cell?_setCell_other _ _ _ _ (by simp)]
    exact World.cell?_setCell_same _ _ _ h.c0
  · unfold put5w
    rw [World.cell?_setCell_other _ _ _ _ (by simp), World.cell?_setCell_other _ _ _ _ (by simp), World.cell?_setCell_other _ _ _ _ (by simp)]
    exact World.cell?_setCell_same _ _ _ a1
  · unfold put5w
    rw [World.cell?_setCell_other _ _ _ _ (by simp), World.cell?_setCell_other _ _ _ _ (by simp)]
    exact World.cell?_setCell_same _ _ _ a2
  · unfold put5w
    rw [World.cell?_setCell_other _ _ _ _ (by simp)]
    exact World.cell?_setCell_same _ _ _ a3
theorem Blk.other {W : World} {g g2 : Nat} {a : Ar} (h : Blk W g2 a) (hne : g2 ≠ g) (s c f p : Int) (b : Bool) : Blk (put5w W g s c f p b) g2 a :=
  ⟨by rw [put5w_size]; exact h.hi, by rw [put5w_other _ _ _ _ _ _ _ _ _ hne]; exact h.c0, by rw [put5w_other _ _ _ _ _ _ _ _ _ hne]; exact h.c1, by rw [put5w_other _ _ _ _ _ _ _ _ _ hne]; exact h.c2, by rw [put5w_other _ _ _ _ _ _ _ _ _ hne]; exact h.c3, by rw [put5w_other _ _ _ _ _ _ _ _ _ hne]; exact h.c4, fun i hi => by rw [put5w_frozen]; exact h.f i hi⟩

set_option maxHeartbeats 4000000 in
theorem find_any (B : Nat) (a : Option Addr) (l : List Ar) (cap : Nat) (p : Int) (w : World) (h : ARow B a cap l w) (hl : l.length ≤ 100) :
    Calls Tryz.prog 137 #[.slice a l.length cap, .int .i64 p] w (RetW (.tuple #[arVal (optA (findV l p)), .bool (findV l p).isSome]) w) := by
  have HA : Hid (∀ W, Below w.heap.size w W → ∀ j, j < l.length → ∃ g, a = some ⟨g, 0, none⟩ ∧ g < W.heap.size ∧ (l.length : Int) ≤ cap ∧ Cel W g (j * 5) (l.getD j Ar.zero)) := by
    intro W hb j hj
    obtain ⟨g, h1, h2, h3, h4, h5, h6⟩ := (h.below hb).at (by omega)
    exact ⟨g, h1, h3, by omega, h6 j hj⟩
  have HC : Hid (∀ W, Below w.heap.size w W → Calls Tryz.prog 131 #[.slice a l.length cap] W (RetW (.bool (checkV l)) W)) := fun W hb => check_any B a l cap W (h.below hb) hl
  have HR : Hid (checkV l = true → ∀ j, j < l.length → 0 ≤ (l.getD j Ar.zero).st ∧ 1 ≤ (l.getD j Ar.zero).cn ∧ (l.getD j Ar.zero).st + (l.getD j Ar.zero).cn ≤ 64) := fun hc j hj => by
    have := rightB_iff.1 (check_right hc j hj).1
    exact ⟨this.1, this.2.1, this.2.2.1⟩
  have HM : Hid (checkV l = true → (∀ j, j < l.length → inB p (l.getD j Ar.zero) = false) → findV l p = none) := fun hc hm => by unfold findV; rw [if_pos hc]; exact find_miss hm
  have HH : Hid (checkV l = true → ∀ k, k < l.length → (∀ j, j < k → inB p (l.getD j Ar.zero) = false) → inB p (l.getD k Ar.zero) = true → findV l p = some (l.getD k Ar.zero)) := fun hc k hk hm hi => by unfold findV; rw [if_pos hc]; exact find_hit hk hm hi
  have HN : Hid (checkV l = false → findV l p = none) := fun hc => by unfold findV; rw [hc]; rfl
  clear h
  go_enter Tryz.func137, Tryz.ntmps137
  go_wp2_with fail
  have hz := Blk.new w 0 0 0 0 false
  have HB : Hid (Below w.heap.size w (w.alloc (Obj.cells #[Value.int IntKind.i64 0, Value.int IntKind.i64 0, Value.int IntKind.i64 0, Value.int IntKind.i64 0, Value.bool false] 139))) := (Below.refl _ w).alloc (Nat.le_refl _) _
  generalize w.alloc (Obj.cells #[Value.int IntKind.i64 0, Value.int IntKind.i64 0, Value.int IntKind.i64 0, Value.int IntKind.i64 0, Value.bool false] 139) = w1 at *
  refine (HC.out _ HB.out).mono ?_; rintro e w2 ⟨rfl, hb⟩
  replace hz := hz.below hb
  replace HB := Lib.hid (HB.out.trans (hb.mono HB.out.size))
  have HZ := Lib.hid hz
  clear hb hz HC
  cases hcv : checkV l with
  | false =>
    have hv := HN.out hcv
    have z0 := HZ.out.c0; have z1 := HZ.out.c1; have z2 := HZ.out.c2; have z3 := HZ.out.c3; have z4 := HZ.out.c4
    have y0 := HZ.out.f 0 (by omega); have y1 := HZ.out.f 1 (by omega); have y2 := HZ.out.f 2 (by omega); have y3 := HZ.out.f 3 (by omega); have y4 := HZ.out.f 4 (by omega)
    simp only at z0 z1 z2 z3 z4
    go_wp2_with fail
    have HD := HZ.out.put 0 0 0 0 false
    have HBD := HB.out.trans (put5w_below (B := w.heap.size) w2 w.heap.size 0 0 0 0 false (Nat.le_refl _))
    unfold put5w at HD HBD
    generalize (((((w2.setCell { block := w.heap.size, off := 0 } (Value.int IntKind.i64 0)).setCell { block := w.heap.size, off := 1 } (Value.int IntKind.i64 0)).setCell { block := w.heap.size, off := 2 } (Value.int IntKind.i64 0)).setCell { block := w.heap.size, off := 3 } (Value.int IntKind.i64 0)).setCell { block := w.heap.size, off := 4 } (Value.bool false)) = W9 at *
    have d0 := HD.c0; have d1 := HD.c1; have d2 := HD.c2; have d3 := HD.c3; have d4 := HD.c4
    simp only at d0 d1 d2 d3 d4
    refine bodyPost_ret (v := .tuple #[.agg #[.int .i64 0, .int .i64 0, .int .i64 0, .int .i64 0, .bool false], .bool false]) (by simp [results, Tryz.results137, go_sem, d0, d1, d2, d3, d4]) rfl ⟨by rw [hv]; rfl, HBD⟩
  | true =>
    have HR2 := Lib.hid (HR.out hcv); have HM2 := Lib.hid (HM.out hcv); have HH2 := Lib.hid (HH.out hcv)
    clear HR HM HH HN hcv
    go_wp2_with fail
    go_loopw [14] (fun v14 wr => ∃ k : Nat, k ≤ l.length ∧ v14 = .int .i64 k ∧ Hid (Below w.heap.size w wr) ∧ Hid (Blk wr w.heap.size ⟨0, 0, 0, 0, false⟩) ∧ Hid (∀ j, j < k → inB p (l.getD j Ar.zero) = false)) (fun v14 _ => 200 - (intOf v14).toNat)
    case atStart => exact ⟨0, Nat.zero_le _, rfl, HB, HZ, fun j hj => absurd hj (Nat.not_lt_zero _)⟩
    case round =>
      clear HB HZ
      obtain ⟨k, hk, rfl, HB, HZ, HF⟩ := hrel
      have z0 := HZ.out.c0; have z1 := HZ.out.c1; have z2 := HZ.out.c2; have z3 := HZ.out.c3; have z4 := HZ.out.c4
      have y0 := HZ.out.f 0 (by omega); have y1 := HZ.out.f 1 (by omega); have y2 := HZ.out.f 2 (by omega); have y3 := HZ.out.f 3 (by omega); have y4 := HZ.out.f 4 (by omega)
      simp only at z0 z1 z2 z3 z4
      by_cases hlt : k < l.length
      · have hlt' : (k : Int) < (l.length : Int) := by omega
        obtain ⟨g, rfl, hg, hcap, hcel⟩ := HA.out _ HB.out k hlt
        obtain ⟨e1, e2, e3⟩ := HR2.out k hlt
        have hh := HH2.out k hlt HF.out
        have hnext : inB p (l.getD k Ar.zero) = false → ∀ j, j < k + 1 → inB p (l.getD j Ar.zero) = false := fun h j hj => by
          by_cases e : j = k
          · rw [e]; exact h
          · exact HF.out j (by omega)
        have HNX := Lib.hid hnext
        have HHH := Lib.hid hh
        clear hh hnext HA
        generalize l.getD k Ar.zero = e at *
        obtain ⟨s, c, f, q, wb⟩ := e
        simp only at e1 e2 e3
        obtain ⟨k0, k1, k2, k3, k4⟩ := hcel
        simp only at k0 k1 k2 k3 k4
        have HE := Lib.hid (fun w => end_any ⟨s, c, f, q, wb⟩ w (by simp only; omega) (by simp only; omega))
        simp only at HE
        have hin : inB p ⟨s, c, f, q, wb⟩ = decide (s ≤ p ∧ p < s + c) := rfl
        rw [hin] at HNX HHH
        clear hin
        have hbl := Blk.new wr s c f q wb
        have HB2 : Hid (Below w.heap.size w (wr.alloc (Obj.cells #[Value.int IntKind.i64 s, Value.int IntKind.i64 c, Value.int IntKind.i64 f, Value.int IntKind.i64 q, Value.bool wb] 139))) := HB.out.alloc HB.out.size _
        have HZ2 := Lib.hid (HZ.out.below ((Below.refl _ wr).alloc (Nat.le_refl _) (Obj.cells #[Value.int IntKind.i64 s, Value.int IntKind.i64 c, Value.int IntKind.i64 f, Value.int IntKind.i64 q, Value.bool wb] 139)))
        have hAne : wr.heap.size ≠ w.heap.size := by have := HZ.out.hi; omega
        by_cases hsp : s ≤ p
        · go_wp2_with fail
          clear HB HZ z0 z1 z2 z3 z4 y0 y1 y2 y3 y4 k0 k1 k2 k3 k4
          generalize wr.alloc (Obj.cells #[Value.int IntKind.i64 s, Value.int IntKind.i64 c, Value.int IntKind.i64 f, Value.int IntKind.i64 q, Value.bool wb] 139) = w3 at *
          generalize wr.heap.size = A at *
          refine (HE.out _).mono ?_; rintro e w4 ⟨rfl, hb⟩
          have HB := Lib.hid (HB2.out.trans (hb.mono HB2.out.size))
          have HZ := Lib.hid (HZ2.out.below hb)
          replace hbl := hbl.below hb
          clear hb HB2 HZ2
          have z0 := HZ.out.c0; have z1 := HZ.out.c1; have z2 := HZ.out.c2; have z3 := HZ.out.c3; have z4 := HZ.out.c4
          have y0 := HZ.out.f 0 (by omega); have y1 := HZ.out.f 1 (by omega); have y2 := HZ.out.f 2 (by omega); have y3 := HZ.out.f 3 (by omega); have y4 := HZ.out.f 4 (by omega)
          have c0 := hbl.c0; have c1 := hbl.c1; have c2 := hbl.c2; have c3 := hbl.c3; have c4 := hbl.c4
          simp only at z0 z1 z2 z3 z4 c0 c1 c2 c3 c4
          by_cases hpe : p < s + c
          · have hv := HHH.out (decide_eq_true ⟨hsp, hpe⟩)
            have HV := Lib.hid hv
            clear hv HNX HHH
            go_wp2_with fail
            have HD := HZ.out.put s c f q wb
            have HBD := HB.out.trans (put5w_below (B := w.heap.size) w4 w.heap.size s c f q wb (Nat.le_refl _))
            unfold put5w at HD HBD
            generalize (((((w4.setCell { block := w.heap.size, off := 0 } (Value.int IntKind.i64 s)).setCell { block := w.heap.size, off := 1 } (Value.int IntKind.i64 c)).setCell { block := w.heap.size, off := 2 } (Value.int IntKind.i64 f)).setCell { block := w.heap.size, off := 3 } (Value.int IntKind.i64 q)).setCell { block := w.heap.size, off := 4 } (Value.bool wb)) = W9 at *
            have d0 := HD.c0; have d1 := HD.c1; have d2 := HD.c2; have d3 := HD.c3; have d4 := HD.c4
            simp only at d0 d1 d2 d3 d4
            refine bodyPost_ret (v := .tuple #[.agg #[.int .i64 s, .int .i64 c, .int .i64 f, .int .i64 q, .bool wb], .bool true]) (by simp [results, Tryz.results137, go_sem, d0, d1, d2, d3, d4]) rfl ⟨by rw [HV.out]; rfl, HBD⟩
          · have HN2 := Lib.hid (HNX.out (decide_eq_false (by omega)))
            have hpe2 : s + c ≤ p := by omega
            clear HNX HHH
            go_wp2_with fail
            go_roundw
            case rel => exact ⟨k + 1, by omega, by go_num, HB, HZ, HN2⟩
            case measure => simp [intOf]; omega
        · have HN2 := Lib.hid (HNX.out (decide_eq_false (by omega)))
          have hsp2 : p < s := by omega
          clear HNX HHH
          go_wp2_with fail
          go_roundw
          case rel => exact ⟨k + 1, by omega, by go_num, HB2, HZ2, HN2⟩
          case measure => simp [intOf]; omega
      · obtain rfl : k = l.length := by omega
        have hv := HM2.out HF.out
        go_wp2_with fail
        have HD := HZ.out.put 0 0 0 0 false
        have HBD := HB.out.trans (put5w_below (B := w.heap.size) wr w.heap.size 0 0 0 0 false (Nat.le_refl _))
        unfold put5w at HD HBD
        generalize (((((wr.setCell { block := w.heap.size, off := 0 } (Value.int IntKind.i64 0)).setCell { block := w.heap.size, off := 1 } (Value.int IntKind.i64 0)).setCell { block := w.heap.size, off := 2 } (Value.int IntKind.i64 0)).setCell { block := w.heap.size, off := 3 } (Value.int IntKind.i64 0)).setCell { block := w.heap.size, off := 4 } (Value.bool false)) = W9 at *
        have d0 := HD.c0; have d1 := HD.c1; have d2 := HD.c2; have d3 := HD.c3; have d4 := HD.c4
        simp only at d0 d1 d2 d3 d4
        refine bodyPost_ret (v := .tuple #[.agg #[.int .i64 0, .int .i64 0, .int .i64 0, .int .i64 0, .bool false], .bool false]) (by simp [results, Tryz.results137, go_sem, d0, d1, d2, d3, d4]) rfl ⟨by rw [hv]; rfl, HBD⟩
end Go.Proofs.YtimhaidiclbnhaaGreat.Ara
/- What a page shows; where there is room. -/
set_option linter.unusedSimpArgs false
set_option linter.unusedVariables false
set_option maxRecDepth 100000
namespace Go.Proofs.YtimhaidiclbnhaaGreat.Ara
open Go.ChangeShapes Go.WideShapes Go.ChangeAt Go.RowKit

theorem find_bound {l : List Ar} {p : Int} : 0 ≤ (optA (findV l p)).st ∧ (optA (findV l p)).st ≤ 64 ∧ 0 ≤ (optA (findV l p)).pg ∧ (optA (findV l p)).pg ≤ 8 := by
  unfold findV
  split
  · rename_i hc
    cases hf : l.find? (inB p) with
    | none => exact ⟨by decide, by decide, by decide, by decide⟩
    | some a =>
      have hm := List.mem_of_find?_eq_some hf
      obtain ⟨j, hj, rfl⟩ := List.mem_iff_getElem.1 hm
      have h1 := (check_right hc j hj).1
      rw [show l.getD j Ar.zero = l[j] from by simp [List.getD, hj]] at h1
      have h2 := rightB_iff.1 h1
      show 0 ≤ l[j].st ∧ l[j].st ≤ 64 ∧ 0 ≤ l[j].pg ∧ l[j].pg ≤ 8
      omega
  · exact ⟨by decide, by decide, by decide, by decide⟩

/-- whether n pages fit ahead of place j -/
def fitAt (l : List Ar) (n : Int) (j : Nat) : Bool := decide (n ≤ (l.getD j Ar.zero).st - lastAt l j)
/-- the first place with room ahead of it, or the end -/
def roomK (l : List Ar) (n : Int) : Nat := ((List.range l.length).find? (fitAt l n)).getD l.length
def roomV (l : List Ar) (n : Int) : Int × Bool := if checkV l = true ∧ withinB (lastAt l (roomK l n)) n 64 = true then (lastAt l (roomK l n), true) else (0, false)
theorem roomK_hit {l : List Ar} {n : Int} {k : Nat} (hk : k < l.length) (h : ∀ j, j < k → fitAt l n j = false) (hi : fitAt l n k = true) : roomK l n = k := by
  unfold roomK
  have : (List.range l.length).find? (fitAt l n) = some k := by
    rw [List.find?_eq_some_iff_getElem]
    exact ⟨hi, k, by simpa using hk, by simp, fun j hj => by simp [h j hj]⟩
  rw [this]; rfl
theorem roomK_miss {l : List Ar} {n : Int} (h : ∀ j, j < l.length → fitAt l n j = false) : roomK l n = l.length := by
  unfold roomK
  have : (List.range l.length).find? (fitAt l n) = none := by
    rw [List.find?_eq_none]
    intro j hj
    rw [h j (List.mem_range.1 hj)]; simp
  rw [this]; rfl

set_option maxHeartbeats 4000000 in
theorem room_any (B : Nat) (a : Option Addr) (l : List Ar) (cap : Nat) (n : Int) (w : World) (h : ARow B a cap l w) (hl : l.length ≤ 100) :
    Calls Tryz.prog 107 #[.slice a l.length cap, .int .i64 n] w (RetW (.tuple #[.int .i64 (roomV l n).1, .bool (roomV l n).2]) w) := by
  have HA : Hid (∀ W, Below w.heap.size w W → ∀ j, j < l.length → ∃ g, a = some ⟨g, 0, none⟩ ∧ g < W.heap.size ∧ (l.length : Int) ≤ cap ∧ Cel W g (j * 5) (l.getD j Ar.zero)) := by
    intro W hb j hj
    obtain ⟨g, h1, h2, h3, h4, h5, h6⟩ := (h.below hb).at (by omega)
    exact ⟨g, h1, h3, by omega, h6 j hj⟩
  have HC := Lib.hid (check_any B a l cap w h hl)
  have HR : Hid (checkV l = true → ∀ j, j < l.length → 0 ≤ (l.getD j Ar.zero).st ∧ 1 ≤ (l.getD j Ar.zero).cn ∧ (l.getD j Ar.zero).st + (l.getD j Ar.zero).cn ≤ 64) := fun hc j hj => by
    have := rightB_iff.1 (check_right hc j hj).1
    exact ⟨this.1, this.2.1, this.2.2.1⟩
  have HV : Hid (∀ k, roomK l n = k → checkV l = true → roomV l n = if withinB (lastAt l k) n 64 = true then (lastAt l k, true) else (0, false)) := by
    intro k hk hc
    unfold roomV
    rw [hk, hc]
    simp
  have HN : Hid (checkV l = false → roomV l n = (0, false)) := fun hc => by unfold roomV; rw [hc, if_neg (by simp)]
  clear h
  go_enter Tryz.func107, Tryz.ntmps107
  go_wp2_with fail
  refine HC.out.mono ?_; rintro e w1 ⟨rfl, hb⟩
  have HB := Lib.hid hb
  clear hb HC
  cases hcv : checkV l with
  | false =>
    have hv := HN.out hcv
    go_wp2_with fail
    go_ret2
    exact ⟨by rw [hv]; rfl, HB.out⟩
  | true =>
    have HR2 := Lib.hid (HR.out hcv); have HV2 : Hid (∀ k, roomK l n = k → roomV l n = if withinB (lastAt l k) n 64 = true then (lastAt l k, true) else (0, false)) := fun k hk => HV.out k hk hcv
    clear HR HV HN hcv
    have HEND : Hid (∀ k, k ≤ l.length → 0 ≤ lastAt l k ∧ lastAt l k ≤ 64) := by
      intro k hk
      unfold lastAt
      split
      · omega
      · have := HR2.out (k - 1) (by omega); omega
    go_wp2_with fail
    go_loopw [6, 14] (fun v6 v14 wr => ∃ k : Nat, k ≤ l.length ∧ v6 = .int .i64 (lastAt l k) ∧ v14 = .int .i64 k ∧ Hid (Below w.heap.size w wr) ∧ Hid (∀ j, j < k → fitAt l n j = false)) (fun _ v14 _ => 200 - (intOf v14).toNat)
    case atStart => exact ⟨0, Nat.zero_le _, rfl, rfl, HB, fun j hj => absurd hj (Nat.not_lt_zero _)⟩
    case round =>
      clear HB
      obtain ⟨k, hk, rfl, rfl, HB, HF⟩ := hrel
      by_cases hlt : k < l.length
      · have hlt' : (k : Int) < (l.length : Int) := by omega
        obtain ⟨g, rfl, hg, hcap, hcel⟩ := HA.out _ HB.out k hlt
        obtain ⟨e1, e2, e3⟩ := HR2.out k hlt
        obtain ⟨l1, l2⟩ := HEND.out k hk
        have hhit : fitAt l n k = true → roomK l n = k := fun hi => roomK_hit hlt HF.out hi
        have hnext : fitAt l n k = false → ∀ j, j < k + 1 → fitAt l n j = false := fun h j hj => by
          by_cases e : j = k
          · rw [e]; exact h
          · exact HF.out j (by omega)
        have hfit : fitAt l n k = decide (n ≤ (l.getD k Ar.zero).st - lastAt l k) := rfl
        have hla := lastAt_succ l k
        have HVK := Lib.hid (HV2.out k)
        rw [hfit] at hhit hnext
        clear HA hfit
        generalize l.getD k Ar.zero = e at *
        obtain ⟨s, c, f, q, wb⟩ := e
        simp only at e1 e2 e3 hhit hnext hla
        obtain ⟨k0, k1, k2, k3, k4⟩ := hcel
        simp only at k0 k1 k2 k3 k4
        have HE := Lib.hid (fun w => end_any ⟨s, c, f, q, wb⟩ w (by simp only; omega) (by simp only; omega))
        simp only at HE
        have HLA := Lib.hid hla
        have HHIT := Lib.hid hhit; have HNX := Lib.hid hnext
        clear hla hhit hnext
        generalize lastAt l k = la at *
        have hw1 : IntKind.i64.wrap (s - la) = s - la := IntWalk.i64_in _ (by omega)
        by_cases hf : n ≤ s - la
        · have hv := HVK.out (HHIT.out (decide_eq_true hf))
          have HWI := Lib.hid (fun w => within_any la n 64 w (by omega) (by omega))
          have HV3 := Lib.hid hv
          have HB2 := Lib.hid (HB.out.alloc HB.out.size (Obj.cells #[Value.int IntKind.i64 s, Value.int IntKind.i64 c, Value.int IntKind.i64 f, Value.int IntKind.i64 q, Value.bool wb] 139))
          clear hv HNX HHIT HVK
          generalize withinB la n 64 = b9 at *
          go_wp2_with fail
          refine (HWI.out _).mono ?_; rintro e w5 ⟨rfl, rfl⟩
          cases b9 with
          | false =>
            go_wp2_with fail
            go_ret2
            exact ⟨by rw [HV3.out]; rfl, HB2.out⟩
          | true =>
            go_wp2_with fail
            go_ret2
            exact ⟨by rw [HV3.out]; rfl, HB2.out⟩
        · have HN2 := Lib.hid (HNX.out (decide_eq_false hf))
          have hf2 : s - la < n := by omega
          clear HNX HHIT HVK
          go_wp2_with fail
          have HB2 := Lib.hid (HB.out.alloc HB.out.size (Obj.cells #[Value.int IntKind.i64 s, Value.int IntKind.i64 c, Value.int IntKind.i64 f, Value.int IntKind.i64 q, Value.bool wb] 139))
          refine (HE.out _).mono ?_; rintro e w4 ⟨rfl, hb⟩
          replace HB2 := Lib.hid (HB2.out.trans (hb.mono HB2.out.size))
          clear hb
          go_wp2_with fail
          go_roundw
          case rel => exact ⟨k + 1, by omega, by rw [HLA.out], by go_num, HB2, HN2⟩
          case measure => simp [intOf]; omega
      · obtain rfl : k = l.length := by omega
        have hv := HV2.out l.length (roomK_miss HF.out)
        have HWI := Lib.hid (fun w => within_any (lastAt l l.length) n 64 w (by omega) (by omega))
        have HV3 := Lib.hid hv
        clear hv
        generalize withinB (lastAt l l.length) n 64 = b9 at *
        generalize lastAt l l.length = la at *
        go_wp2_with fail
        refine (HWI.out _).mono ?_; rintro e w5 ⟨rfl, rfl⟩
        cases b9 with
        | false =>
          go_wp2_with fail
          go_ret2
          exact ⟨by rw [HV3.out]; rfl, HB.out⟩
        | true =>
          go_wp2_with fail
          go_ret2
          exact ⟨by rw [HV3.out]; rfl, HB.out⟩
end Go.Proofs.YtimhaidiclbnhaaGreat.Ara
/- The pages that show a page of a file. -/
set_option linter.unusedSimpArgs false
set_option linter.unusedVariables false
set_option maxRecDepth 100000
namespace Go.Proofs.YtimhaidiclbnhaaGreat.Ara
open Go.ChangeShapes Go.WideShapes Go.ChangeAt Go.RowKit

/-- a is the head of a row of numbers l, in a block from B on -/
def IRow (B : Nat) (a : Option Addr) (cap : Nat) (l : List Int) (w : World) : Prop :=
  (a = none ∧ l = [] ∧ cap = 0) ∨ ∃ g, a = some ⟨g, 0, none⟩ ∧ B ≤ g ∧ g < w.heap.size ∧ l.length ≤ cap ∧ cap ≤ maxLen ∧ ∀ j, j < l.length → w.cell? ⟨g, j, none⟩ = some (.int .i64 (l.getD j 0))
theorem IRow.below {B cap : Nat} {a : Option Addr} {l : List Int} {w w' : World} (h : IRow B a cap l w) (hb : Below w.heap.size w w') : IRow B a cap l w' := by
  rcases h with h | ⟨g, h1, h2, h3, h4, h5, h6⟩
  · exact Or.inl h
  · exact Or.inr ⟨g, h1, h2, Nat.lt_of_lt_of_le h3 hb.size, h4, h5, fun j hj => by rw [hb.cell (p := ⟨g, j, none⟩) h3]; exact h6 j hj⟩
theorem IRow.ofOwn {B n : Nat} {v : Value} {l : List Int} {w : World} (h : w.ownsRow B 3 1 v n (l.map (Value.int .i64))) : ∃ a cap, v = .slice a l.length cap ∧ n = l.length ∧ IRow B a cap l w := by
  have hl : n = l.length := by have := h.1; simp at this; omega
  subst hl
  rcases h.2 with ⟨hv, hn⟩ | ⟨g, cap, cur, hv, _, _, hc1, hc2, _⟩
  · refine ⟨none, 0, ?_, rfl, Or.inl ⟨rfl, List.length_eq_zero_iff.1 hn, rfl⟩⟩
    rw [hv, hn]
  · refine ⟨some ⟨g, 0, none⟩, cap, hv, rfl, Or.inr ⟨g, rfl, (h.lt g (by rw [hv]; rfl)).1, (h.lt g (by rw [hv]; rfl)).2, hc1, hc2, ?_⟩⟩
    intro j hj
    have := h.cells (g := g) (by rw [hv]; rfl) j (.int .i64 (l.getD j 0)) (by simp [List.getD, hj])
    rw [Addr.add_lit] at this
    simpa using this
theorem int_info : (Tryz.prog.info? 3).map (fun i => (i.zero, i.size, i.bytes)) = some (some (.int .i64 0), 1, 8) := by kernel_rfl
end Go.Proofs.YtimhaidiclbnhaaGreat.Ara
