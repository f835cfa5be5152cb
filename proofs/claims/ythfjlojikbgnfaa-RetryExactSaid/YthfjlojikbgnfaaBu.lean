/- dock.Bunch. -/
import Derived.Test.YthfjlojikbgnfaaNx
import Derived.Test.YthfjlojikbgnfaaData
namespace Go.Proofs.Ythfjlojikbgnfaa
open Go.ChangeShapes Go.WideShapes Go.ChangeAt Go.RowKit

/-- block A is the empty result, block A + 1 is the bunch b -/
structure Bst (w : World) (b : Ar) (W : World) : Prop where
  fa : At W w.heap.size ZB
  fb : At W (w.heap.size + 1) b.bcells
  m : MemOK W b
  lo : MemLo (w.heap.size + 2) b
  bel : Below w.heap.size w W
theorem Bst.c {w W : World} {b : Ar} (h : Bst w b W) : W.cell? ⟨w.heap.size + 1, 2, none⟩ = some (.int .i64 b.kd) ∧ W.cell? ⟨w.heap.size + 1, 4, none⟩ = some (.int .i64 b.cnt) ∧ w.heap.size + 1 < W.heap.size :=
  ⟨h.fb.cell 2 _ rfl, h.fb.cell 4 _ rfl, h.fb.hi⟩
theorem Bst.s {w W : World} {b : Ar} (h : Bst w b W) (o : Obj) : (W.alloc o).cell? ⟨w.heap.size + 1, 7, none⟩ = some (.slice b.ma b.ml b.mc) ∧ (W.alloc o).frozen? ⟨w.heap.size + 1, 7, none⟩ = false ∧ W.cell? ⟨w.heap.size + 1, 5, none⟩ = some (.string b.dat) ∧ W.frozen? ⟨w.heap.size + 1, 5, none⟩ = false := by
  have hb := h.fb.below ((Below.refl W.heap.size W).alloc (Nat.le_refl _) o) h.fb.hi
  exact ⟨hb.cell 7 _ rfl, hb.free 7 (by simp [Ar.bcells]), h.fb.cell 5 _ rfl, h.fb.free 5 (by simp [Ar.bcells])⟩
theorem Bst.below {w W W' : World} {b : Ar} (h : Bst w b W) (hb : Below W.heap.size W W') : Bst w b W' :=
  ⟨h.fa.below hb h.fa.hi, h.fb.below hb h.fb.hi, h.m.below hb, h.lo, h.bel.trans (hb.mono h.bel.size)⟩
theorem setCell_off (W : World) (B i : Nat) (v : Value) (k j : Nat) (hk : k ≠ B) : (W.setCell ⟨B, i, none⟩ v).cell? ⟨k, j, none⟩ = W.cell? ⟨k, j, none⟩ :=
  World.cell?_setCell_other _ _ _ _ (fun e => hk (Addr.mk.inj e).1.symm)
theorem Bst.setM {w W : World} {b : Ar} (h : Bst w b W) (M : List Mb) (hM : M.length ≤ 5864062014805) :
    Bst w ⟨b.id, b.ten, b.kd, b.sec, b.cnt, b.dat, b.fua, some ⟨W.heap.size, 0, none⟩, M.length, M.length, b.tm, b.tk, b.tr, M⟩ ((W.setCell ⟨w.heap.size + 1, 7, none⟩ (.slice (some ⟨W.heap.size, 0, none⟩) M.length M.length)).alloc (.cells (mflat M).toArray 60)) := by
  have hsz := h.fb.hi
  have hs : (W.setCell ⟨w.heap.size + 1, 7, none⟩ (.slice (some ⟨W.heap.size, 0, none⟩) M.length M.length)).heap.size = W.heap.size := by simp [World.setCell]
  have hn := At.new (W.setCell ⟨w.heap.size + 1, 7, none⟩ (.slice (some ⟨W.heap.size, 0, none⟩) M.length M.length)) (mflat M) 60
  rw [hs] at hn
  have ha := (h.fa.apart (b' := w.heap.size + 1) (by omega) 7 [.slice (some ⟨W.heap.size, 0, none⟩) M.length M.length]).alloc (.cells (mflat M).toArray 60)
  have hb := (h.fb.set 7 (.slice (some ⟨W.heap.size, 0, none⟩) M.length M.length)).alloc (.cells (mflat M).toArray 60)
  refine ⟨ha, hb, ⟨rfl, hM, Or.inl (Or.inr ⟨W.heap.size, 0, rfl, ?_, Nat.le_refl _, by show M.length ≤ _; unfold maxLen; omega, hn.r⟩)⟩, fun q hq => ?_, (h.bel.setCell (p := ⟨w.heap.size + 1, 7, none⟩) (Nat.le_succ _) _).alloc (by rw [hs]; exact h.bel.size) _⟩
  · exact hn.hi
  · cases hq
    show w.heap.size + 2 ≤ W.heap.size
    omega
theorem offB {B : Nat} {b : Ar} (h : MemLo (B + 2) b) {g o : Nat} (e : b.ma = some ⟨g, o, none⟩) : g ≠ B + 1 := by
  have := h _ e
  simp only at this
  omega
theorem offB0 {B : Nat} {b : Ar} (h : MemLo (B + 2) b) {g o : Nat} (e : b.ma = some ⟨g, o, none⟩) : g ≠ B := by
  have := h _ e
  simp only at this
  omega
theorem Bst.setD {w W : World} {b : Ar} (h : Bst w b W) (d : ByteArray) :
    Bst w ⟨b.id, b.ten, b.kd, b.sec, b.cnt, d, b.fua, b.ma, b.ml, b.mc, b.tm, b.tk, b.tr, b.mem⟩ (W.setCell ⟨w.heap.size + 1, 5, none⟩ (.string d)) := by
  refine ⟨h.fa.apart (b' := w.heap.size + 1) (by omega) 5 [.string d], h.fb.set 5 (.string d), ⟨h.m.1, h.m.2.1, h.m.2.2.imp (fun hk => hk.keep (by simp [World.setCell]) fun g o e _ i => setCell_off _ _ _ _ _ _ (offB h.lo e)) (fun h => h)⟩, h.lo, h.bel.setCell (p := ⟨w.heap.size + 1, 5, none⟩) (Nat.le_succ _) _⟩
def BunchPost (id : Int) (w : World) (e : Ending) (w' : World) : Prop :=
  ∃ b : Ar, e = .returned (bVal b) ∧ b.id = 2 * id ∧ MemOK w' b ∧ Below w.heap.size w w'
theorem bunch_end {w W w5 : World} {b : Ar} (h : Bst w b W) (hw : w5 = W.setCells w.heap.size 0 b.bcells) : At w5 w.heap.size b.bcells ∧ MemOK w5 b ∧ Below w.heap.size w w5 := by
  subst hw
  refine ⟨h.fa.store b.bcells rfl, ⟨h.m.1, h.m.2.1, h.m.2.2.imp (fun hk => hk.keep (by rw [size_cells]; exact Nat.le_refl _) fun g o e _ i => World.cell?_setCells_out _ _ _ _ _ (fun hg _ => absurd hg (offB0 h.lo e))) (fun h => h)⟩, below_cells (Nat.le_refl _) _ _ h.bel⟩
set_option maxHeartbeats 1000000 in
theorem dbunch_any (n id : Int) (w : World) (h0 : 0 ≤ id) (h1 : id ≤ 100) :
    Calls Try.prog 22 #[.int .i64 n, .int .i64 id] w (BunchPost id w) := by
  have hw2 : IntKind.i64.wrap (2 * id) = 2 * id := IntWalk.i64_in _ (by omega)
  have hw3 : IntKind.i64.wrap (2 * id + 1) = 2 * id + 1 := IntWalk.i64_in _ (by omega)
  have hB0 : Hid (Bst w ⟨0, 0, 0, 0, 0, ⟨#[]⟩, false, none, 0, 0, 0, 0, 0, []⟩ ((w.alloc (Obj.cells ZB.toArray 38)).alloc (Obj.cells ZB.toArray 38))) :=
    ⟨(At.new w ZB 38).alloc _, (At.new (w.alloc (Obj.cells ZB.toArray 38)) ZB 38).cast (by simp), ⟨rfl, Nat.zero_le _, Or.inl (Or.inl ⟨rfl, rfl, rfl⟩)⟩, (fun q hq => by cases hq), ((Below.refl _ w).alloc (Nat.le_refl _) _).alloc (by simp) _⟩
  obtain ⟨W0, hW0⟩ : ∃ W0, W0 = (w.alloc (Obj.cells ZB.toArray 38)).alloc (Obj.cells ZB.toArray 38) := ⟨_, rfl⟩
  rw [← hW0] at hB0
  simp only [ZB] at hW0
  go_enter Try.func22, Try.ntmps22
  go_wp2_with fail
  refine (round_some _ _ _ (by omega) (by omega)).mono ?_; rintro e w' ⟨r1, r10, r11, rfl, rfl⟩
  go_wp2_with fail
  refine (round_some _ _ _ (by omega) (by omega)).mono ?_; rintro e w' ⟨r2, r20, r21, rfl, rfl⟩
  go_wp2_with fail
  refine (round_some _ _ _ (by omega) (by omega)).mono ?_; rintro e w' ⟨r3, r30, r31, rfl, rfl⟩
  go_wp2_with fail
  refine (round_some _ _ _ (by omega) (by omega)).mono ?_; rintro e w' ⟨r4, r40, r41, rfl, rfl⟩
  go_wp2_with fail
  refine (round_some _ _ _ (by omega) (by omega)).mono ?_; rintro e w' ⟨r5, r50, r51, rfl, rfl⟩
  go_wp2_with fail
  refine (round_some _ _ _ (by omega) (by omega)).mono ?_; rintro e w' ⟨r6, r60, r61, rfl, rfl⟩
  have k2 : IntKind.i64.wrap (1 + r2) = 1 + r2 := IntWalk.i64_in _ (by omega)
  have k4 : IntKind.i64.wrap (1 + r4) = 1 + r4 := IntWalk.i64_in _ (by omega)
  go_wp2_with (with_reducible refine hold_store 38 rfl ?_)
  obtain ⟨c, hc⟩ : ∃ c : Nat, 1 + r4 = (c : Int) := Int.eq_ofNat_of_zero_le (by omega)
  have hc1 : 1 ≤ c := by omega
  have hc3 : c ≤ 3 := by omega
  rw [hc, ← hW0]
  clear hW0 k4 hc r40 r41
  generalize (r5 == 0) = fu at *
  generalize 1 + r2 = kd at *
  refine store_ato 0 [.int .i64 (2 * id), .int .i64 r1, .int .i64 kd, .int .i64 r3, .int .i64 c, .string ⟨#[]⟩, .bool fu, .slice none 0 0, .int .i64 r6] hB0.out.fb.t rfl size38 (by simp [Value.oneCell']) rfl rfl rfl rfl ?_
  intro W1 hW1
  have HB1 : Hid (Bst w ⟨2 * id, r1, kd, r3, c, ⟨#[]⟩, fu, none, 0, 0, r6, 0, 0, []⟩ W1) := by
    rw [hW1]
    exact ⟨hB0.out.fa.apart (by omega) _ _, hB0.out.fb.store _ rfl, ⟨rfl, Nat.zero_le _, Or.inl (Or.inl ⟨rfl, rfl, rfl⟩)⟩, (fun q hq => by cases hq), below_cells (Nat.le_succ _) _ _ hB0.out.bel⟩
  clear hW1 hB0
  obtain ⟨_, c4, hB⟩ := HB1.out.c
  obtain ⟨c7, f7, _, _⟩ := HB1.out.s (Obj.cells #[.int .i64 (2 * id), .int .i64 0, .int .i64 c] 60)
  simp only at c4 c7
  have HB2 : Hid (Bst w ⟨2 * id, r1, kd, r3, c, ⟨#[]⟩, fu, some ⟨W1.heap.size, 0, none⟩, 1, 1, r6, 0, 0, [⟨2 * id, 0, c⟩]⟩ ((W1.setCell ⟨w.heap.size + 1, 7, none⟩ (.slice (some ⟨W1.heap.size, 0, none⟩) 1 1)).alloc (Obj.cells #[.int .i64 (2 * id), .int .i64 0, .int .i64 c] 60))) := HB1.out.setM [⟨2 * id, 0, c⟩] (by simp)
  clear HB1
  go_upto_region 3 with (fail)
  clear c4 c7 f7 hB
  generalize hw : (W1.setCell ⟨w.heap.size + 1, 7, none⟩ (.slice (some ⟨W1.heap.size, 0, none⟩) 1 1)).alloc (Obj.cells #[.int .i64 (2 * id), .int .i64 0, .int .i64 c] 60) = W2 at *
  clear hw
  obtain ⟨_, c4, hB⟩ := HB2.out.c
  simp only at c4
  by_cases hcm : c = 1
  · have hc2 : ¬ (1 : Int) < (c : Int) := by omega
    clear hcm
    obtain ⟨ck, cc, hBx⟩ := HB2.out.c
    simp only at ck cc
    by_cases hk : kd = 2
    · subst hk
      go_wp2_with fail
      refine (data_any _ c _ (by omega)).mono ?_
      rintro e w3 ⟨rfl, hb⟩
      have HBy := Lib.hid (HB2.out.below hb)
      clear hb ck cc hBx
      generalize dataS _ c = dd at *
      obtain ⟨_, _, hBy⟩ := HBy.out.c
      obtain ⟨_, _, c5, f5⟩ := HBy.out.s (Obj.cells #[] 60)
      have HBz := Lib.hid (HBy.out.setD dd)
      go_wp2_with (with_reducible refine hold_load 38 rfl ?_)
      generalize hz : World.setCell _ _ _ = wz at *
      refine load_ato 0 HBz.out.fb.r Try.underlying38 rfl size38 rfl rfl rfl ?_
      simp only [Ar.bcells]
      go_wp2_with (with_reducible refine hold_store 38 rfl ?_)
      refine store_ato 0 [.int .i64 (2 * id), .int .i64 r1, .int .i64 2, .int .i64 r3, .int .i64 c, .string dd, .bool fu, .slice (some ⟨W1.heap.size, 0, none⟩) 1 1, .int .i64 r6] HBz.out.fa.t rfl size38 (by simp [Value.oneCell']) rfl rfl rfl rfl ?_
      intro w5 hw5
      obtain ⟨hA5, hM5, hB5⟩ := bunch_end HBz.out hw5
      go_wp2_with fail
      refine bodyPost_ret (v := .agg #[.int .i64 (2 * id), .int .i64 r1, .int .i64 2, .int .i64 r3, .int .i64 c, .string dd, .bool fu, .slice (some ⟨W1.heap.size, 0, none⟩) 1 1, .int .i64 r6]) (results_cell _ _ _ rfl w5 _ _ rfl _ hA5.r Try.underlying38 rfl size38) rfl ?_
      exact ⟨_, rfl, rfl, hM5, hB5⟩
    · have hk2 : (kd == 2) = false := beq_eq_false_iff_ne.2 hk
      go_wp2_with (with_reducible refine hold_load 38 rfl ?_)
      skip
      refine load_ato 0 HB2.out.fb.r Try.underlying38 rfl size38 rfl rfl rfl ?_
      simp only [Ar.bcells]
      go_wp2_with (with_reducible refine hold_store 38 rfl ?_)
      refine store_ato 0 [.int .i64 (2 * id), .int .i64 r1, .int .i64 kd, .int .i64 r3, .int .i64 c, .string ⟨#[]⟩, .bool fu, .slice (some ⟨W1.heap.size, 0, none⟩) 1 1, .int .i64 r6] HB2.out.fa.t rfl size38 (by simp [Value.oneCell']) rfl rfl rfl rfl ?_
      intro w5 hw5
      obtain ⟨hA5, hM5, hB5⟩ := bunch_end HB2.out hw5
      go_wp2_with fail
      refine bodyPost_ret (v := .agg #[.int .i64 (2 * id), .int .i64 r1, .int .i64 kd, .int .i64 r3, .int .i64 c, .string ⟨#[]⟩, .bool fu, .slice (some ⟨W1.heap.size, 0, none⟩) 1 1, .int .i64 r6]) (results_cell _ _ _ rfl w5 _ _ rfl _ hA5.r Try.underlying38 rfl size38) rfl ?_
      exact ⟨_, rfl, rfl, hM5, hB5⟩
  · have hc2 : (1 : Int) < (c : Int) := by omega
    go_wp2_with fail
    refine (round_some _ _ _ (by omega) (by omega)).mono ?_
    rintro e wq ⟨r7, r70, r71, rfl, rfl⟩
    by_cases h7 : r7 = 0
    · subst h7
      have kc : IntKind.i64.wrap ((c : Int) - 1) = (c : Int) - 1 := IntWalk.i64_in _ (by omega)
      obtain ⟨c7, f7, _, _⟩ := HB2.out.s (Obj.cells #[.int .i64 (2 * id), .int .i64 0, .int .i64 1, .int .i64 (2 * id + 1), .int .i64 1, .int .i64 ((c : Int) - 1)] 60)
      simp only at c7
      have HB3 : Hid (Bst w ⟨2 * id, r1, kd, r3, c, ⟨#[]⟩, fu, some ⟨W2.heap.size, 0, none⟩, 2, 2, r6, 0, 0, [⟨2 * id, 0, 1⟩, ⟨2 * id + 1, 1, (c : Int) - 1⟩]⟩ ((W2.setCell ⟨w.heap.size + 1, 7, none⟩ (.slice (some ⟨W2.heap.size, 0, none⟩) 2 2)).alloc (Obj.cells #[.int .i64 (2 * id), .int .i64 0, .int .i64 1, .int .i64 (2 * id + 1), .int .i64 1, .int .i64 ((c : Int) - 1)] 60))) := HB2.out.setM [⟨2 * id, 0, 1⟩, ⟨2 * id + 1, 1, (c : Int) - 1⟩] (by simp)
      clear HB2
      go_upto_region 5 with (fail)
      clear c4 c7 f7 hB
      generalize hw : (W2.setCell ⟨w.heap.size + 1, 7, none⟩ (.slice (some ⟨W2.heap.size, 0, none⟩) 2 2)).alloc (Obj.cells #[.int .i64 (2 * id), .int .i64 0, .int .i64 1, .int .i64 (2 * id + 1), .int .i64 1, .int .i64 ((c : Int) - 1)] 60) = W3 at *
      clear hw
      obtain ⟨ck, cc, hBx⟩ := HB3.out.c
      simp only at ck cc
      by_cases hk : kd = 2
      · subst hk
        go_wp2_with fail
        refine (data_any _ c _ (by omega)).mono ?_
        rintro e w3 ⟨rfl, hb⟩
        have HBy := Lib.hid (HB3.out.below hb)
        clear hb ck cc hBx
        generalize dataS _ c = dd at *
        obtain ⟨_, _, hBy⟩ := HBy.out.c
        obtain ⟨_, _, c5, f5⟩ := HBy.out.s (Obj.cells #[] 60)
        have HBz := Lib.hid (HBy.out.setD dd)
        go_wp2_with (with_reducible refine hold_load 38 rfl ?_)
        generalize hz : World.setCell _ _ _ = wz at *
        refine load_ato 0 HBz.out.fb.r Try.underlying38 rfl size38 rfl rfl rfl ?_
        simp only [Ar.bcells]
        go_wp2_with (with_reducible refine hold_store 38 rfl ?_)
        refine store_ato 0 [.int .i64 (2 * id), .int .i64 r1, .int .i64 2, .int .i64 r3, .int .i64 c, .string dd, .bool fu, .slice (some ⟨W2.heap.size, 0, none⟩) 2 2, .int .i64 r6] HBz.out.fa.t rfl size38 (by simp [Value.oneCell']) rfl rfl rfl rfl ?_
        intro w5 hw5
        obtain ⟨hA5, hM5, hB5⟩ := bunch_end HBz.out hw5
        go_wp2_with fail
        refine bodyPost_ret (v := .agg #[.int .i64 (2 * id), .int .i64 r1, .int .i64 2, .int .i64 r3, .int .i64 c, .string dd, .bool fu, .slice (some ⟨W2.heap.size, 0, none⟩) 2 2, .int .i64 r6]) (results_cell _ _ _ rfl w5 _ _ rfl _ hA5.r Try.underlying38 rfl size38) rfl ?_
        exact ⟨_, rfl, rfl, hM5, hB5⟩
      · have hk2 : (kd == 2) = false := beq_eq_false_iff_ne.2 hk
        go_wp2_with (with_reducible refine hold_load 38 rfl ?_)
        skip
        refine load_ato 0 HB3.out.fb.r Try.underlying38 rfl size38 rfl rfl rfl ?_
        simp only [Ar.bcells]
        go_wp2_with (with_reducible refine hold_store 38 rfl ?_)
        refine store_ato 0 [.int .i64 (2 * id), .int .i64 r1, .int .i64 kd, .int .i64 r3, .int .i64 c, .string ⟨#[]⟩, .bool fu, .slice (some ⟨W2.heap.size, 0, none⟩) 2 2, .int .i64 r6] HB3.out.fa.t rfl size38 (by simp [Value.oneCell']) rfl rfl rfl rfl ?_
        intro w5 hw5
        obtain ⟨hA5, hM5, hB5⟩ := bunch_end HB3.out hw5
        go_wp2_with fail
        refine bodyPost_ret (v := .agg #[.int .i64 (2 * id), .int .i64 r1, .int .i64 kd, .int .i64 r3, .int .i64 c, .string ⟨#[]⟩, .bool fu, .slice (some ⟨W2.heap.size, 0, none⟩) 2 2, .int .i64 r6]) (results_cell _ _ _ rfl w5 _ _ rfl _ hA5.r Try.underlying38 rfl size38) rfl ?_
        exact ⟨_, rfl, rfl, hM5, hB5⟩
    · have h72 : (r7 == 0) = false := beq_eq_false_iff_ne.2 h7
      obtain ⟨ck, cc, hBx⟩ := HB2.out.c
      simp only at ck cc
      by_cases hk : kd = 2
      · subst hk
        go_wp2_with fail
        refine (data_any _ c _ (by omega)).mono ?_
        rintro e w3 ⟨rfl, hb⟩
        have HBy := Lib.hid (HB2.out.below hb)
        clear hb ck cc hBx
        generalize dataS _ c = dd at *
        obtain ⟨_, _, hBy⟩ := HBy.out.c
        obtain ⟨_, _, c5, f5⟩ := HBy.out.s (Obj.cells #[] 60)
        have HBz := Lib.hid (HBy.out.setD dd)
        go_wp2_with (with_reducible refine hold_load 38 rfl ?_)
        generalize hz : World.setCell _ _ _ = wz at *
        refine load_ato 0 HBz.out.fb.r Try.underlying38 rfl size38 rfl rfl rfl ?_
        simp only [Ar.bcells]
        go_wp2_with (with_reducible refine hold_store 38 rfl ?_)
        refine store_ato 0 [.int .i64 (2 * id), .int .i64 r1, .int .i64 2, .int .i64 r3, .int .i64 c, .string dd, .bool fu, .slice (some ⟨W1.heap.size, 0, none⟩) 1 1, .int .i64 r6] HBz.out.fa.t rfl size38 (by simp [Value.oneCell']) rfl rfl rfl rfl ?_
        intro w5 hw5
        obtain ⟨hA5, hM5, hB5⟩ := bunch_end HBz.out hw5
        go_wp2_with fail
        refine bodyPost_ret (v := .agg #[.int .i64 (2 * id), .int .i64 r1, .int .i64 2, .int .i64 r3, .int .i64 c, .string dd, .bool fu, .slice (some ⟨W1.heap.size, 0, none⟩) 1 1, .int .i64 r6]) (results_cell _ _ _ rfl w5 _ _ rfl _ hA5.r Try.underlying38 rfl size38) rfl ?_
        exact ⟨_, rfl, rfl, hM5, hB5⟩
      · have hk2 : (kd == 2) = false := beq_eq_false_iff_ne.2 hk
        go_wp2_with (with_reducible refine hold_load 38 rfl ?_)
        skip
        refine load_ato 0 HB2.out.fb.r Try.underlying38 rfl size38 rfl rfl rfl ?_
        simp only [Ar.bcells]
        go_wp2_with (with_reducible refine hold_store 38 rfl ?_)
        refine store_ato 0 [.int .i64 (2 * id), .int .i64 r1, .int .i64 kd, .int .i64 r3, .int .i64 c, .string ⟨#[]⟩, .bool fu, .slice (some ⟨W1.heap.size, 0, none⟩) 1 1, .int .i64 r6] HB2.out.fa.t rfl size38 (by simp [Value.oneCell']) rfl rfl rfl rfl ?_
        intro w5 hw5
        obtain ⟨hA5, hM5, hB5⟩ := bunch_end HB2.out hw5
        go_wp2_with fail
        refine bodyPost_ret (v := .agg #[.int .i64 (2 * id), .int .i64 r1, .int .i64 kd, .int .i64 r3, .int .i64 c, .string ⟨#[]⟩, .bool fu, .slice (some ⟨W1.heap.size, 0, none⟩) 1 1, .int .i64 r6]) (results_cell _ _ _ rfl w5 _ _ rfl _ hA5.r Try.underlying38 rfl size38) rfl ?_
        exact ⟨_, rfl, rfl, hM5, hB5⟩
end Go.Proofs.Ythfjlojikbgnfaa
