/- Finding an area, and what a page shows. -/
import Derived.Test.YtpnoilpdlnlebaaCk
namespace Go.Proofs.Ytpnoilpdlnlebaa
open Go.ChangeShapes Go.WideShapes Go.ChangeAt Go.RowKit

theorem check_right {l : List Ar} (h : checkV l = true) : ∀ j, j < l.length → rightB (l.getD j Ar.zero) = true ∧ lastAt l j ≤ (l.getD j Ar.zero).st := by
  intro j hj
  unfold checkV chkTo at h
  have h1 := List.all_eq_true.1 (Bool.and_eq_true _ _ ▸ h).1 j (List.mem_range.2 hj)
  unfold okAt at h1
  have h2 := Bool.and_eq_true _ _ ▸ h1
  exact ⟨h2.1, of_decide_eq_true h2.2⟩
theorem check_len {l : List Ar} (h : checkV l = true) : l.length ≤ 8 := by
  unfold checkV at h
  exact of_decide_eq_true (Bool.and_eq_true _ _ ▸ h).2
def inB (p : Int) (a : Ar) : Bool := decide (a.st ≤ p ∧ p < a.st + a.cn)
def findV (l : List Ar) (p : Int) : Option Ar := if checkV l = true then l.find? (inB p) else none
def arVal (a : Ar) : Value := .agg #[.int .i64 a.st, .int .i64 a.cn, .int .i64 a.fi, .int .i64 a.pg, .bool a.wr]
def optA (o : Option Ar) : Ar := o.getD Ar.zero
theorem find_hit {l : List Ar} {p : Int} {k : Nat} (hk : k < l.length) (h : ∀ j, j < k → inB p (l.getD j Ar.zero) = false) (hi : inB p (l.getD k Ar.zero) = true) : l.find? (inB p) = some (l.getD k Ar.zero) := by
  have hg : ∀ j (hj : j < l.length), l.getD j Ar.zero = l[j] := fun j hj => by simp [List.getD, hj]
  rw [List.find?_eq_some_iff_getElem]
  rw [hg k hk] at hi ⊢
  refine ⟨hi, k, hk, rfl, fun j hj => ?_⟩
  have := h j hj
  rw [hg j (by omega)] at this
  simp [this]
theorem find_miss {l : List Ar} {p : Int} (h : ∀ j, j < l.length → inB p (l.getD j Ar.zero) = false) : l.find? (inB p) = none := by
  rw [List.find?_eq_none]
  intro x hx
  obtain ⟨j, hj, rfl⟩ := List.mem_iff_getElem.1 hx
  have := h j hj
  rw [show l.getD j Ar.zero = l[j] from by simp [List.getD, hj]] at this
  simp [this]

/-- an area laid into block g -/
def put5w (W : World) (g : Nat) (s c f p : Int) (b : Bool) : World :=
  ((((W.setCell ⟨g, 0, none⟩ (.int .i64 s)).setCell ⟨g, 1, none⟩ (.int .i64 c)).setCell ⟨g, 2, none⟩ (.int .i64 f)).setCell ⟨g, 3, none⟩ (.int .i64 p)).setCell ⟨g, 4, none⟩ (.bool b)
theorem put5w_below {B : Nat} (W : World) (g : Nat) (s c f p : Int) (b : Bool) (h : B ≤ g) : Below B W (put5w W g s c f p b) :=
  (((((Below.refl B W).setCell (p := ⟨g, 0, none⟩) h _).setCell (p := ⟨g, 1, none⟩) h _).setCell (p := ⟨g, 2, none⟩) h _).setCell (p := ⟨g, 3, none⟩) h _).setCell (p := ⟨g, 4, none⟩) h _
theorem put5w_other (W : World) (g : Nat) (s c f p : Int) (b : Bool) (g2 o : Nat) (h : g2 ≠ g) : (put5w W g s c f p b).cell? ⟨g2, o, none⟩ = W.cell? ⟨g2, o, none⟩ := by
  unfold put5w
  rw [World.cell?_setCell_other _ _ _ _ (by intro e; cases e; exact h rfl), World.cell?_setCell_other _ _ _ _ (by intro e; cases e; exact h rfl), World.cell?_setCell_other _ _ _ _ (by intro e; cases e; exact h rfl), World.cell?_setCell_other _ _ _ _ (by intro e; cases e; exact h rfl), World.cell?_setCell_other _ _ _ _ (by intro e; cases e; exact h rfl)]
theorem put5w_frozen (W : World) (g : Nat) (s c f p : Int) (b : Bool) (x : Addr) : (put5w W g s c f p b).frozen? x = W.frozen? x := by
  unfold put5w
  rw [World.frozen?_setCell, World.frozen?_setCell, World.frozen?_setCell, World.frozen?_setCell, World.frozen?_setCell]
theorem put5w_size (W : World) (g : Nat) (s c f p : Int) (b : Bool) : (put5w W g s c f p b).heap.size = W.heap.size := by simp [put5w, World.setCell]
theorem Blk.put {W : World} {g : Nat} {a : Ar} (h : Blk W g a) (s c f p : Int) (b : Bool) : Blk (put5w W g s c f p b) g ⟨s, c, f, p, b⟩ := by
  have a1 : (W.setCell ⟨g, 0, none⟩ (.int .i64 s)).cell? ⟨g, 1, none⟩ = some (.int .i64 a.cn) := by rw [World.cell?_setCell_other _ _ _ _ (by simp)]; exact h.c1
  have a2 : ((W.setCell ⟨g, 0, none⟩ (.int .i64 s)).setCell ⟨g, 1, none⟩ (.int .i64 c)).cell? ⟨g, 2, none⟩ = some (.int .i64 a.fi) := by rw [World.cell?_setCell_other _ _ _ _ (by simp), World.cell?_setCell_other _ _ _ _ (by simp)]; exact h.c2
  have a3 : (((W.setCell ⟨g, 0, none⟩ (.int .i64 s)).setCell ⟨g, 1, none⟩ (.int .i64 c)).setCell ⟨g, 2, none⟩ (.int .i64 f)).cell? ⟨g, 3, none⟩ = some (.int .i64 a.pg) := by rw [World.cell?_setCell_other _ _ _ _ (by simp), World.cell?_setCell_other _ _ _ _ (by simp), World.cell?_setCell_other _ _ _ _ (by simp)]; exact h.c3
  have a4 : ((((W.setCell ⟨g, 0, none⟩ (.int .i64 s)).setCell ⟨g, 1, none⟩ (.int .i64 c)).setCell ⟨g, 2, none⟩ (.int .i64 f)).setCell ⟨g, 3, none⟩ (.int .i64 p)).cell? ⟨g, 4, none⟩ = some (.bool a.wr) := by rw [World.cell?_setCell_other _ _ _ _ (by simp), World.cell?_setCell_other _ _ _ _ (by simp), World.cell?_setCell_other _ _ _ _ (by simp), World.cell?_setCell_other _ _ _ _ (by simp)]; exact h.c4
  refine ⟨by rw [put5w_size]; exact h.hi, ?_, ?_, ?_, ?_, World.cell?_setCell_same _ _ _ a4, fun i hi => by rw [put5w_frozen]; exact h.f i hi⟩
  · unfold put5w
    rw [World.cell?_setCell_other _ _ _ _ (by simp), World.cell?_setCell_other _ _ _ _ (by simp), World.cell?_setCell_other _ _ _ _ (by simp), World.cell?_setCell_other _ _ _ _ (by simp)]
    exact World.cell?_setCell_same _ _ _ h.c0
  · unfold put5w
    rw [World.cell?_setCell_other _ _ _ _ (by simp), World.cell?_setCell_other _ _ _ _ (by simp), World.cell?_setCell_other _ _ _ _ (by simp)]
    exact World.cell?_setCell_same _ _ _ a1
  · unfold put5w
    rw [World.cell?_setCell_other _ _ _ _ (by simp), World.cell?_setCell_other _ _ _ _ (by simp)]
    exact World.cell?_setCell_same _ _ _ a2
  · unfold put5w
    rw [World.cell?_setCell_other _ _ _ _ (by simp)]
    exact World.cell?_setCell_same _ _ _ a3
theorem Blk.other {W : World} {g g2 : Nat} {a : Ar} (h : Blk W g2 a) (hne : g2 ≠ g) (s c f p : Int) (b : Bool) : Blk (put5w W g s c f p b) g2 a :=
  ⟨by rw [put5w_size]; exact h.hi, by rw [put5w_other _ _ _ _ _ _ _ _ _ hne]; exact h.c0, by rw [put5w_other _ _ _ _ _ _ _ _ _ hne]; exact h.c1, by rw [put5w_other _ _ _ _ _ _ _ _ _ hne]; exact h.c2, by rw [put5w_other _ _ _ _ _ _ _ _ _ hne]; exact h.c3, by rw [put5w_other _ _ _ _ _ _ _ _ _ hne]; exact h.c4, fun i hi => by rw [put5w_frozen]; exact h.f i hi⟩

set_option maxHeartbeats 4000000 in
theorem find_any (B : Nat) (a : Option Addr) (l : List Ar) (cap : Nat) (p : Int) (w : World) (h : ARow B a cap l w) (hl : l.length ≤ 100) :
    Calls Try.prog 14 #[.slice a l.length cap, .int .i64 p] w (RetW (.tuple #[arVal (optA (findV l p)), .bool (findV l p).isSome]) w) := by
  have HA : Hid (∀ W, Below w.heap.size w W → ∀ j, j < l.length → ∃ g, a = some ⟨g, 0, none⟩ ∧ g < W.heap.size ∧ (l.length : Int) ≤ cap ∧ Cel W g (j * 5) (l.getD j Ar.zero)) := by
    intro W hb j hj
    obtain ⟨g, h1, h2, h3, h4, h5, h6⟩ := (h.below hb).at (by omega)
    exact ⟨g, h1, h3, by omega, h6 j hj⟩
  have HC : Hid (∀ W, Below w.heap.size w W → Calls Try.prog 20 #[.slice a l.length cap] W (RetW (.bool (checkV l)) W)) := fun W hb => check_any B a l cap W (h.below hb) hl
  have HR : Hid (checkV l = true → ∀ j, j < l.length → 0 ≤ (l.getD j Ar.zero).st ∧ 1 ≤ (l.getD j Ar.zero).cn ∧ (l.getD j Ar.zero).st + (l.getD j Ar.zero).cn ≤ 64) := fun hc j hj => by
    have := rightB_iff.1 (check_right hc j hj).1
    exact ⟨this.1, this.2.1, this.2.2.1⟩
  have HM : Hid (checkV l = true → (∀ j, j < l.length → inB p (l.getD j Ar.zero) = false) → findV l p = none) := fun hc hm => by unfold findV; rw [if_pos hc]; exact find_miss hm
  have HH : Hid (checkV l = true → ∀ k, k < l.length → (∀ j, j < k → inB p (l.getD j Ar.zero) = false) → inB p (l.getD k Ar.zero) = true → findV l p = some (l.getD k Ar.zero)) := fun hc k hk hm hi => by unfold findV; rw [if_pos hc]; exact find_hit hk hm hi
  have HN : Hid (checkV l = false → findV l p = none) := fun hc => by unfold findV; rw [hc]; rfl
  clear h
  go_enter Try.func14, Try.ntmps14
  go_wp2_with fail
  have hz := Blk.new w 0 0 0 0 false
  have HB : Hid (Below w.heap.size w (w.alloc (Obj.cells #[Value.int IntKind.i64 0, Value.int IntKind.i64 0, Value.int IntKind.i64 0, Value.int IntKind.i64 0, Value.bool false] 30))) := (Below.refl _ w).alloc (Nat.le_refl _) _
  generalize w.alloc (Obj.cells #[Value.int IntKind.i64 0, Value.int IntKind.i64 0, Value.int IntKind.i64 0, Value.int IntKind.i64 0, Value.bool false] 30) = w1 at *
  refine (HC.out _ HB.out).mono ?_; rintro e w2 ⟨rfl, hb⟩
  replace hz := hz.below hb
  replace HB := Lib.hid (HB.out.trans (hb.mono HB.out.size))
  have HZ := Lib.hid hz
  clear hb hz HC
  cases hcv : checkV l with
  | false =>
    have hv := HN.out hcv
    have z0 := HZ.out.c0; have z1 := HZ.out.c1; have z2 := HZ.out.c2; have z3 := HZ.out.c3; have z4 := HZ.out.c4
    have y0 := HZ.out.f 0 (by omega); have y1 := HZ.out.f 1 (by omega); have y2 := HZ.out.f 2 (by omega); have y3 := HZ.out.f 3 (by omega); have y4 := HZ.out.f 4 (by omega)
    simp only at z0 z1 z2 z3 z4
    go_wp2_with fail
    have HD := HZ.out.put 0 0 0 0 false
    have HBD := HB.out.trans (put5w_below (B := w.heap.size) w2 w.heap.size 0 0 0 0 false (Nat.le_refl _))
    unfold put5w at HD HBD
    generalize (((((w2.setCell { block := w.heap.size, off := 0 } (Value.int IntKind.i64 0)).setCell { block := w.heap.size, off := 1 } (Value.int IntKind.i64 0)).setCell { block := w.heap.size, off := 2 } (Value.int IntKind.i64 0)).setCell { block := w.heap.size, off := 3 } (Value.int IntKind.i64 0)).setCell { block := w.heap.size, off := 4 } (Value.bool false)) = W9 at *
    have d0 := HD.c0; have d1 := HD.c1; have d2 := HD.c2; have d3 := HD.c3; have d4 := HD.c4
    simp only at d0 d1 d2 d3 d4
    refine bodyPost_ret (v := .tuple #[.agg #[.int .i64 0, .int .i64 0, .int .i64 0, .int .i64 0, .bool false], .bool false]) (by simp [results, Try.results14, go_sem, d0, d1, d2, d3, d4]) rfl ⟨by rw [hv]; rfl, HBD⟩
  | true =>
    have HR2 := Lib.hid (HR.out hcv); have HM2 := Lib.hid (HM.out hcv); have HH2 := Lib.hid (HH.out hcv)
    clear HR HM HH HN hcv
    go_wp2_with fail
    go_loopw [14] (fun v14 wr => ∃ k : Nat, k ≤ l.length ∧ v14 = .int .i64 k ∧ Hid (Below w.heap.size w wr) ∧ Hid (Blk wr w.heap.size ⟨0, 0, 0, 0, false⟩) ∧ Hid (∀ j, j < k → inB p (l.getD j Ar.zero) = false)) (fun v14 _ => 200 - (intOf v14).toNat)
    case atStart => exact ⟨0, Nat.zero_le _, rfl, HB, HZ, fun j hj => absurd hj (Nat.not_lt_zero _)⟩
    case round =>
      clear HB HZ
      obtain ⟨k, hk, rfl, HB, HZ, HF⟩ := hrel
      have z0 := HZ.out.c0; have z1 := HZ.out.c1; have z2 := HZ.out.c2; have z3 := HZ.out.c3; have z4 := HZ.out.c4
      have y0 := HZ.out.f 0 (by omega); have y1 := HZ.out.f 1 (by omega); have y2 := HZ.out.f 2 (by omega); have y3 := HZ.out.f 3 (by omega); have y4 := HZ.out.f 4 (by omega)
      simp only at z0 z1 z2 z3 z4
      by_cases hlt : k < l.length
      · have hlt' : (k : Int) < (l.length : Int) := by omega
        obtain ⟨g, rfl, hg, hcap, hcel⟩ := HA.out _ HB.out k hlt
        obtain ⟨e1, e2, e3⟩ := HR2.out k hlt
        have hh := HH2.out k hlt HF.out
        have hnext : inB p (l.getD k Ar.zero) = false → ∀ j, j < k + 1 → inB p (l.getD j Ar.zero) = false := fun h j hj => by
          by_cases e : j = k
          · rw [e]; exact h
          · exact HF.out j (by omega)
        have HNX := Lib.hid hnext
        have HHH := Lib.hid hh
        clear hh hnext HA
        generalize l.getD k Ar.zero = e at *
        obtain ⟨s, c, f, q, wb⟩ := e
        simp only at e1 e2 e3
        obtain ⟨k0, k1, k2, k3, k4⟩ := hcel
        simp only at k0 k1 k2 k3 k4
        have HE := Lib.hid (fun w => end_any ⟨s, c, f, q, wb⟩ w (by simp only; omega) (by simp only; omega))
        simp only at HE
        have hin : inB p ⟨s, c, f, q, wb⟩ = decide (s ≤ p ∧ p < s + c) := rfl
        rw [hin] at HNX HHH
        clear hin
        have hbl := Blk.new wr s c f q wb
        have HB2 : Hid (Below w.heap.size w (wr.alloc (Obj.cells #[Value.int IntKind.i64 s, Value.int IntKind.i64 c, Value.int IntKind.i64 f, Value.int IntKind.i64 q, Value.bool wb] 30))) := HB.out.alloc HB.out.size _
        have HZ2 := Lib.hid (HZ.out.below ((Below.refl _ wr).alloc (Nat.le_refl _) (Obj.cells #[Value.int IntKind.i64 s, Value.int IntKind.i64 c, Value.int IntKind.i64 f, Value.int IntKind.i64 q, Value.bool wb] 30)))
        have hAne : wr.heap.size ≠ w.heap.size := by have := HZ.out.hi; omega
        by_cases hsp : s ≤ p
        · go_wp2_with fail
          clear HB HZ z0 z1 z2 z3 z4 y0 y1 y2 y3 y4 k0 k1 k2 k3 k4
          generalize wr.alloc (Obj.cells #[Value.int IntKind.i64 s, Value.int IntKind.i64 c, Value.int IntKind.i64 f, Value.int IntKind.i64 q, Value.bool wb] 30) = w3 at *
          generalize wr.heap.size = A at *
          refine (HE.out _).mono ?_; rintro e w4 ⟨rfl, hb⟩
          have HB := Lib.hid (HB2.out.trans (hb.mono HB2.out.size))
          have HZ := Lib.hid (HZ2.out.below hb)
          replace hbl := hbl.below hb
          clear hb HB2 HZ2
          have z0 := HZ.out.c0; have z1 := HZ.out.c1; have z2 := HZ.out.c2; have z3 := HZ.out.c3; have z4 := HZ.out.c4
          have y0 := HZ.out.f 0 (by omega); have y1 := HZ.out.f 1 (by omega); have y2 := HZ.out.f 2 (by omega); have y3 := HZ.out.f 3 (by omega); have y4 := HZ.out.f 4 (by omega)
          have c0 := hbl.c0; have c1 := hbl.c1; have c2 := hbl.c2; have c3 := hbl.c3; have c4 := hbl.c4
          simp only at z0 z1 z2 z3 z4 c0 c1 c2 c3 c4
          by_cases hpe : p < s + c
          · have hv := HHH.out (decide_eq_true ⟨hsp, hpe⟩)
            have HV := Lib.hid hv
            clear hv HNX HHH
            go_wp2_with fail
            have HD := HZ.out.put s c f q wb
            have HBD := HB.out.trans (put5w_below (B := w.heap.size) w4 w.heap.size s c f q wb (Nat.le_refl _))
            unfold put5w at HD HBD
            generalize (((((w4.setCell { block := w.heap.size, off := 0 } (Value.int IntKind.i64 s)).setCell { block := w.heap.size, off := 1 } (Value.int IntKind.i64 c)).setCell { block := w.heap.size, off := 2 } (Value.int IntKind.i64 f)).setCell { block := w.heap.size, off := 3 } (Value.int IntKind.i64 q)).setCell { block := w.heap.size, off := 4 } (Value.bool wb)) = W9 at *
            have d0 := HD.c0; have d1 := HD.c1; have d2 := HD.c2; have d3 := HD.c3; have d4 := HD.c4
            simp only at d0 d1 d2 d3 d4
            refine bodyPost_ret (v := .tuple #[.agg #[.int .i64 s, .int .i64 c, .int .i64 f, .int .i64 q, .bool wb], .bool true]) (by simp [results, Try.results14, go_sem, d0, d1, d2, d3, d4]) rfl ⟨by rw [HV.out]; rfl, HBD⟩
          · have HN2 := Lib.hid (HNX.out (decide_eq_false (by omega)))
            have hpe2 : s + c ≤ p := by omega
            clear HNX HHH
            go_wp2_with fail
            go_roundw
            case rel => exact ⟨k + 1, by omega, by go_num, HB, HZ, HN2⟩
            case measure => simp [intOf]; omega
        · have HN2 := Lib.hid (HNX.out (decide_eq_false (by omega)))
          have hsp2 : p < s := by omega
          clear HNX HHH
          go_wp2_with fail
          go_roundw
          case rel => exact ⟨k + 1, by omega, by go_num, HB2, HZ2, HN2⟩
          case measure => simp [intOf]; omega
      · obtain rfl : k = l.length := by omega
        have hv := HM2.out HF.out
        go_wp2_with fail
        have HD := HZ.out.put 0 0 0 0 false
        have HBD := HB.out.trans (put5w_below (B := w.heap.size) wr w.heap.size 0 0 0 0 false (Nat.le_refl _))
        unfold put5w at HD HBD
        generalize (((((wr.setCell { block := w.heap.size, off := 0 } (Value.int IntKind.i64 0)).setCell { block := w.heap.size, off := 1 } (Value.int IntKind.i64 0)).setCell { block := w.heap.size, off := 2 } (Value.int IntKind.i64 0)).setCell { block := w.heap.size, off := 3 } (Value.int IntKind.i64 0)).setCell { block := w.heap.size, off := 4 } (Value.bool false)) = W9 at *
        have d0 := HD.c0; have d1 := HD.c1; have d2 := HD.c2; have d3 := HD.c3; have d4 := HD.c4
        simp only at d0 d1 d2 d3 d4
        refine bodyPost_ret (v := .tuple #[.agg #[.int .i64 0, .int .i64 0, .int .i64 0, .int .i64 0, .bool false], .bool false]) (by simp [results, Try.results14, go_sem, d0, d1, d2, d3, d4]) rfl ⟨by rw [hv]; rfl, HBD⟩
end Go.Proofs.Ytpnoilpdlnlebaa
