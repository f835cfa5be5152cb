/- Checking a list of areas. -/
import Derived.Test.YtpnoilpdlnlebaaAr
import Derived.LoopTactic
namespace Go.Proofs.Ytpnoilpdlnlebaa
open Go.ChangeShapes Go.WideShapes Go.ChangeAt Go.RowKit

/-- where the areas ahead of place k end -/
def lastAt (l : List Ar) (k : Nat) : Int := if k = 0 then 0 else (l.getD (k - 1) Ar.zero).st + (l.getD (k - 1) Ar.zero).cn
def okAt (l : List Ar) (i : Nat) : Bool := rightB (l.getD i Ar.zero) && decide (lastAt l i ≤ (l.getD i Ar.zero).st)
def chkTo (l : List Ar) (k : Nat) : Bool := (List.range k).all (okAt l)
def checkV (l : List Ar) : Bool := chkTo l l.length && decide (l.length ≤ 8)
theorem chkTo_succ (l : List Ar) (k : Nat) : chkTo l (k + 1) = (chkTo l k && okAt l k) := by
  unfold chkTo; rw [List.range_succ, List.all_append]; simp
theorem chkTo_false {l : List Ar} {k n : Nat} (h : okAt l k = false) (hk : k < n) : chkTo l n = false := by
  unfold chkTo
  rw [List.all_eq_false]
  exact ⟨k, List.mem_range.2 hk, by rw [h]; simp⟩
theorem lastAt_succ (l : List Ar) (k : Nat) : lastAt l (k + 1) = (l.getD k Ar.zero).st + (l.getD k Ar.zero).cn := by simp [lastAt]
/-- a row's facts at a world: for the walks -/
theorem ARow.at {B cap : Nat} {a : Option Addr} {l : List Ar} {w : World} (h : ARow B a cap l w) (hl : 0 < l.length) : ∃ g, a = some ⟨g, 0, none⟩ ∧ B ≤ g ∧ g < w.heap.size ∧ l.length ≤ cap ∧ cap ≤ maxLen ∧ ∀ j, j < l.length → Cel w g (j * 5) (l.getD j Ar.zero) := by
  rcases h with ⟨_, h2, _⟩ | h
  · rw [h2] at hl; exact absurd hl (Nat.lt_irrefl _)
  · exact h
theorem rightB_iff {a : Ar} : rightB a = true ↔ (0 ≤ a.st ∧ 1 ≤ a.cn ∧ a.st + a.cn ≤ 64 ∧ 0 ≤ a.pg ∧ a.pg + a.cn ≤ 8 ∧ 0 ≤ a.fi ∧ a.fi < 8) := by simp [rightB]

set_option maxHeartbeats 4000000 in
theorem check_any (B : Nat) (a : Option Addr) (l : List Ar) (cap : Nat) (w : World) (h : ARow B a cap l w) (hl : l.length ≤ 100) :
    Calls Try.prog 20 #[.slice a l.length cap] w (RetW (.bool (checkV l)) w) := by
  have HA : Hid (∀ j, j < l.length → ∃ g, a = some ⟨g, 0, none⟩ ∧ g < w.heap.size ∧ (l.length : Int) ≤ cap ∧ Cel w g (j * 5) (l.getD j Ar.zero)) := by
    intro j hj
    obtain ⟨g, h1, h2, h3, h4, h5, h6⟩ := h.at (by omega)
    exact ⟨g, h1, h3, by omega, h6 j hj⟩
  clear h
  go_enter Try.func20, Try.ntmps20
  go_wp2_with fail
  go_loopw [3, 8] (fun v3 v8 wr => ∃ k : Nat, k ≤ l.length ∧ v3 = .int .i64 (lastAt l k) ∧ v8 = .int .i64 k ∧ Hid (Below w.heap.size w wr) ∧ Hid (chkTo l k = true)) (fun _ v8 _ => 200 - (intOf v8).toNat)
  case atStart => exact ⟨0, Nat.zero_le _, rfl, rfl, Below.refl _ _, rfl⟩
  case round =>
    obtain ⟨k, hk, rfl, rfl, HB, HC⟩ := hrel
    by_cases hlt : k < l.length
    · have hlt' : (k : Int) < (l.length : Int) := by omega
      obtain ⟨g, rfl, hg, hcap, hcel⟩ := HA.out k hlt
      have hcw := hcel.eq (w' := wr) (fun i => HB.out.cell (p := ⟨g, i, none⟩) hg)
      have hst := chkTo_succ l k
      have hfa := @chkTo_false l k l.length
      have hla := lastAt_succ l k
      have hok : okAt l k = (rightB (l.getD k Ar.zero) && decide (lastAt l k ≤ (l.getD k Ar.zero).st)) := rfl
      rw [hok] at hst hfa
      rw [HC.out, Bool.true_and] at hst
      clear hcel hok
      generalize l.getD k Ar.zero = e at *
      obtain ⟨s, c, f, p, wb⟩ := e
      simp only at hla hst hfa
      have HLA := Lib.hid hla
      clear hla
      obtain ⟨k0, k1, k2, k3, k4⟩ := hcw
      simp only at k0 k1 k2 k3 k4
      have hright := fun w => right_any ⟨s, c, f, p, wb⟩ w
      simp only at hright
      have HR := Lib.hid hright
      have hg2 : g < wr.heap.size := Nat.lt_of_lt_of_le hg HB.out.size
      have hends : rightB ⟨s, c, f, p, wb⟩ = true → 0 ≤ s ∧ 1 ≤ c ∧ s + c ≤ 64 := fun h => by
        have := rightB_iff.1 h
        exact ⟨this.1, this.2.1, this.2.2.1⟩
      generalize rightB ⟨s, c, f, p, wb⟩ = rb at *
      generalize lastAt l k = la at *
      clear hright
      have HST := Lib.hid hst
      have HFA := Lib.hid hfa
      clear hst hfa HA
      go_wp2_with fail
      have hbl := Blk.new wr s c f p wb
      have HB2 : Hid (Below w.heap.size w (wr.alloc (Obj.cells #[Value.int IntKind.i64 s, Value.int IntKind.i64 c, Value.int IntKind.i64 f, Value.int IntKind.i64 p, Value.bool wb] 30))) := HB.out.alloc HB.out.size _
      generalize wr.alloc (Obj.cells #[Value.int IntKind.i64 s, Value.int IntKind.i64 c, Value.int IntKind.i64 f, Value.int IntKind.i64 p, Value.bool wb] 30) = w2 at *
      generalize wr.heap.size = A at *
      refine (HR.out _).mono ?_; rintro e w3 ⟨rfl, hb⟩
      replace HB2 := Lib.hid (HB2.out.trans (hb.mono HB2.out.size))
      replace hbl := hbl.below hb
      clear hb k0 k1 k2 k3 k4
      have c0 := hbl.c0; have c1 := hbl.c1; have c2 := hbl.c2; have c3 := hbl.c3; have c4 := hbl.c4
      simp only at c0 c1 c2 c3 c4
      cases rb with
      | false =>
        have hF := HFA.out rfl hlt
        go_wp2_with fail
        go_ret
        exact RetW.mk (by unfold checkV; rw [hF]; rfl) HB2.out
      | true =>
        by_cases hla : la ≤ s
        · obtain ⟨e1, e2, e3⟩ := hends rfl
          have hT := HST.out
          rw [decide_eq_true hla] at hT
          have HE := Lib.hid (fun w => end_any ⟨s, c, f, p, wb⟩ w (by simp only; omega) (by simp only; omega))
          simp only at HE
          have HT := Lib.hid hT
          clear hT
          go_wp2_with fail
          refine (HE.out _).mono ?_; rintro e w4 ⟨rfl, hb⟩
          replace HB2 := Lib.hid (HB2.out.trans (hb.mono HB2.out.size))
          clear hb
          go_wp2_with fail
          go_roundw
          case rel => exact ⟨k + 1, by omega, by rw [HLA.out], by go_num, HB2, HT⟩
          case measure => simp [intOf]; omega
        · have hF := HFA.out (by rw [decide_eq_false hla]; rfl) hlt
          have hla2 : s < la := by omega
          go_wp2_with fail
          go_ret
          exact RetW.mk (by unfold checkV; rw [hF]; rfl) HB2.out
    · obtain rfl : k = l.length := by omega
      have HV : Hid (checkV l = decide (l.length ≤ 8)) := by unfold Hid checkV; rw [HC.out, Bool.true_and]
      by_cases h8 : l.length ≤ 8
      · have h9 : (l.length : Int) ≤ 8 := by omega
        rw [decide_eq_true h8] at HV
        go_wp2_with fail
        go_ret
        exact RetW.mk (by rw [HV.out]; simp [h8]) HB.out
      · have h9 : (8 : Int) < (l.length : Int) := by omega
        rw [decide_eq_false h8] at HV
        go_wp2_with fail
        go_ret
        exact RetW.mk (by rw [HV.out]; simp [h8]; omega) HB.out

set_option maxHeartbeats 4000000 in
theorem checkR_any (B : Nat) (a : Option Addr) (l : List Ar) (cap : Nat) (w : World) (h : ARow B a cap l w) (hl : l.length ≤ 100) :
    Calls Try.prog 21 #[.slice a l.length cap] w (RetW (.bool (checkV l)) w) := by
  have HA : Hid (∀ j, j < l.length → ∃ g, a = some ⟨g, 0, none⟩ ∧ g < w.heap.size ∧ (l.length : Int) ≤ cap ∧ Cel w g (j * 5) (l.getD j Ar.zero)) := by
    intro j hj
    obtain ⟨g, h1, h2, h3, h4, h5, h6⟩ := h.at (by omega)
    exact ⟨g, h1, h3, by omega, h6 j hj⟩
  clear h
  by_cases h8 : l.length ≤ 8
  · have h9 : (l.length : Int) ≤ 8 := by omega
    have HV : Hid (checkV l = chkTo l l.length) := by unfold Hid checkV; rw [decide_eq_true h8, Bool.and_true]
    go_enter Try.func21, Try.ntmps21
    go_wp2_with fail
    generalize decide ((8 : Int) < (l.length : Int)) = b0
    go_loopw [3] (fun v3 wr => ∃ k : Nat, k ≤ l.length ∧ v3 = .int .i64 k ∧ Hid (Below w.heap.size w wr) ∧ Hid (chkTo l k = true)) (fun v3 _ => 200 - (intOf v3).toNat)
    case atStart => exact ⟨0, Nat.zero_le _, rfl, Below.refl _ _, rfl⟩
    case round =>
      obtain ⟨k, hk, rfl, HB, HC⟩ := hrel
      by_cases hlt : k < l.length
      · have hlt' : (k : Int) < (l.length : Int) := by omega
        obtain ⟨g, rfl, hg, hcap, hcel⟩ := HA.out k hlt
        have hcw := hcel.eq (w' := wr) (fun i => HB.out.cell (p := ⟨g, i, none⟩) hg)
        have hst := chkTo_succ l k
        have hfa := @chkTo_false l k l.length
        have hok : okAt l k = (rightB (l.getD k Ar.zero) && decide (lastAt l k ≤ (l.getD k Ar.zero).st)) := rfl
        have hprev : ∀ j, k = j + 1 → ∃ (s' c' : Int), lastAt l k = s' + c' ∧ 0 ≤ s' ∧ 0 ≤ c' ∧ s' + c' ≤ 64 ∧ wr.cell? ⟨g, j * 5, none⟩ = some (.int .i64 s') ∧ wr.cell? ⟨g, j * 5 + 1, none⟩ = some (.int .i64 c') := by
          intro j hj
          obtain ⟨g2, hgg, hg2, _, hc2⟩ := HA.out j (by omega)
          cases hgg
          have hp := hc2.eq (w' := wr) (fun i => HB.out.cell (p := ⟨g, i, none⟩) hg)
          have hr : okAt l j = true := by
            have := HC.out
            unfold chkTo at this
            exact List.all_eq_true.1 this j (List.mem_range.2 (by omega))
          have hr2 : rightB (l.getD j Ar.zero) = true := by
            unfold okAt at hr
            exact (Bool.and_eq_true _ _ ▸ hr).1
          have hr3 := rightB_iff.1 hr2
          refine ⟨_, _, by rw [hj, lastAt_succ], by omega, by omega, by omega, hp.c0, hp.c1⟩
        have hz0 : k = 0 → lastAt l k = 0 := fun h => by rw [h]; rfl
        rw [hok] at hst hfa
        rw [HC.out, Bool.true_and] at hst
        clear hcel hok HA
        generalize l.getD k Ar.zero = e at *
        obtain ⟨s, c, f, p, wb⟩ := e
        simp only at hst hfa
        obtain ⟨k0, k1, k2, k3, k4⟩ := hcw
        simp only at k0 k1 k2 k3 k4
        have hright := fun w => rightR_any ⟨s, c, f, p, wb⟩ w
        simp only at hright
        have HR := Lib.hid hright
        have hg2 : g < wr.heap.size := Nat.lt_of_lt_of_le hg HB.out.size
        have hends : rightB ⟨s, c, f, p, wb⟩ = true → 0 ≤ s ∧ 1 ≤ c ∧ s + c ≤ 64 := fun h => by
          have := rightB_iff.1 h
          exact ⟨this.1, this.2.1, this.2.2.1⟩
        have HBd : Hid (Below w.heap.size w wr.drew) := HB.out.drew
        generalize rightB ⟨s, c, f, p, wb⟩ = rb at *
        clear hright
        have HST := Lib.hid hst
        have HFA := Lib.hid hfa
        clear hst hfa
        cases rb with
        | false =>
          have hF := HFA.out rfl hlt
          clear hprev hz0 hends HST HFA
          go_wp2_with fail
          refine wp_region_held_drew (S := fun w' => w'.cell? ⟨g, k * 5, none⟩ = some (.int .i64 s) ∧ w'.cell? ⟨g, k * 5 + 1, none⟩ = some (.int .i64 c) ∧ w'.cell? ⟨g, k * 5 + 2, none⟩ = some (.int .i64 f) ∧ w'.cell? ⟨g, k * 5 + 3, none⟩ = some (.int .i64 p) ∧ w'.cell? ⟨g, k * 5 + 4, none⟩ = some (.bool wb)) (by kernel_rfl) (by (try dsimp only); go_keep) (fun hHeld => ?_)
          refine wpAnyH_take (i := 0) (oi := { dst := some 13, op := Op.move (Operand.tmp 0), type := 26, pos := "ref.go:22", after := #[], guard := none }) (v := ?_) rfl (by kernel_rfl) (by kernel_rfl) (by kernel_rfl) (fun _ _ _ h => h) (Or.inl ⟨by rfl, ?_⟩) (by assumption) ?_
          rotate_left
          focus ((intro w hSw; (try dsimp only at hSw); go_simp) <;> (try with_reducible rfl))
          try simp only [Act.put, List.setIfInBounds_toArray, List.set_cons_zero, List.set_cons_succ]
          refine wpAnyH_take (i := 1) (oi := { dst := some 14, op := Op.move (Operand.tmp 3), type := 3, pos := "ref.go:22", after := #[], guard := none }) (v := ?_) rfl (by kernel_rfl) (by kernel_rfl) (by kernel_rfl) (fun _ _ _ h => h) (Or.inl ⟨by rfl, ?_⟩) (by assumption) ?_
          rotate_left
          focus ((intro w hSw; (try dsimp only at hSw); go_simp) <;> (try with_reducible rfl))
          try simp only [Act.put, List.setIfInBounds_toArray, List.set_cons_zero, List.set_cons_succ]
          refine wpAnyH_take (i := 2) (oi := { dst := some 15, op := Op.indexAddr 26 (Operand.tmp 13) (Operand.tmp 14), type := 0, pos := "ref.go:22", after := #[{ on := 0, ground := Ground.data }, { on := 1, ground := Ground.data }], guard := none }) (v := ?_) rfl (by kernel_rfl) (by kernel_rfl) (by kernel_rfl) (fun _ _ _ h => h) (Or.inl ⟨by rfl, ?_⟩) (by assumption) ?_
          rotate_left
          focus ((intro w hSw; (try dsimp only at hSw); go_simp) <;> (try with_reducible rfl))
          try simp only [Act.put, List.setIfInBounds_toArray, List.set_cons_zero, List.set_cons_succ]
          refine wpAnyH_take (i := 3) (oi := { dst := some 16, op := Op.load 30 (Operand.tmp 15), type := 30, pos := "ref.go:22", after := #[{ on := 2, ground := Ground.data }], guard := none }) (v := ?_) rfl (by kernel_rfl) (by kernel_rfl) (by kernel_rfl) (fun _ _ _ h => h) (Or.inl ⟨by rfl, ?_⟩) (by assumption) ?_
          rotate_left
          focus ((intro w hSw; (try dsimp only at hSw); go_simp) <;> (try with_reducible rfl))
          try simp only [Act.put, List.setIfInBounds_toArray, List.set_cons_zero, List.set_cons_succ]
          refine wpAnyH_ready (rs := [4]) (by kernel_rfl) (by simp) ?_
          refine AllReadyH.cons (o := { dst := some 17, op := Op.call { callee := Callee.value (Operand.func 31), args := #[Operand.tmp 16], argTypes := #[30] }, type := 4, pos := "ref.go:22", after := #[{ on := 3, ground := Ground.data }], guard := none }) rfl (fun K hK => ?_) AllReadyH.nil
          go_simp
          (first | (go_at_call 31; refine (HR.out _).mono ?_; rintro e w3 ⟨rfl, hb⟩; have j0 := (hb.cell (p := ⟨g, k * 5, none⟩) hg2).trans k0; have j1 := (hb.cell (p := ⟨g, k * 5 + 1, none⟩) hg2).trans k1; have j2 := (hb.cell (p := ⟨g, k * 5 + 2, none⟩) hg2).trans k2; have j3 := (hb.cell (p := ⟨g, k * 5 + 3, none⟩) hg2).trans k3; have j4 := (hb.cell (p := ⟨g, k * 5 + 4, none⟩) hg2).trans k4; have HB3 := Lib.hid (HBd.out.trans (hb.mono HBd.out.size))))
          go_wp2_with fail
          refine hK.out _ _ (by (try dsimp only); go_keep) (fun hHeld => ?_)
          clear hK K
          try simp only [Act.put, List.setIfInBounds_toArray, List.set_cons_zero, List.set_cons_succ]
          refine wpAnyH_take (i := 5) (oi := { dst := some 18, op := Op.unOp UnOp.not 4 (Operand.tmp 17), type := 4, pos := "ref.go:22", after := #[{ on := 4, ground := Ground.data }], guard := none }) (v := ?_) rfl (by kernel_rfl) (by kernel_rfl) (by kernel_rfl) (fun _ _ _ h => h) (Or.inl ⟨by rfl, ?_⟩) (by assumption) ?_
          rotate_left
          focus ((intro w hSw; (try dsimp only at hSw); go_simp) <;> (try with_reducible rfl))
          try simp only [Act.put, List.setIfInBounds_toArray, List.set_cons_zero, List.set_cons_succ]
          refine wpAnyH_take (i := 6) (oi := { dst := some 19, op := Op.move (Operand.tmp 18), type := 4, pos := "ref.go:22", after := #[{ on := 5, ground := Ground.data }, { on := 4, ground := Ground.chain }], guard := none }) (v := ?_) rfl (by kernel_rfl) (by kernel_rfl) (by kernel_rfl) (fun _ _ _ h => h) (Or.inl ⟨by rfl, ?_⟩) (by assumption) ?_
          rotate_left
          focus ((intro w hSw; (try dsimp only at hSw); go_simp) <;> (try with_reducible rfl))
          try simp only [Act.put, List.setIfInBounds_toArray, List.set_cons_zero, List.set_cons_succ]
          refine wpAnyH_take (i := 7) (oi := { dst := some 20, op := Op.move (Operand.tmp 3), type := 3, pos := "ref.go:22", after := #[{ on := 6, ground := Ground.guard }], guard := some (6, false) }) (v := undef) rfl (by kernel_rfl) (by kernel_rfl) (by kernel_rfl) (fun _ _ _ h => h) (Or.inr ⟨by rfl, rfl⟩) (by assumption) ?_
          try simp only [Act.put, List.setIfInBounds_toArray, List.set_cons_zero, List.set_cons_succ]
          refine wpAnyH_take (i := 8) (oi := { dst := some 21, op := Op.binOp BinOp.gtr 3 (Operand.tmp 20) (Operand.const (Value.int IntKind.i64 0)) 3, type := 4, pos := "ref.go:22", after := #[{ on := 7, ground := Ground.data }, { on := 6, ground := Ground.guard }], guard := some (6, false) }) (v := undef) rfl (by kernel_rfl) (by kernel_rfl) (by kernel_rfl) (fun _ _ _ h => h) (Or.inr ⟨by rfl, rfl⟩) (by assumption) ?_
          try simp only [Act.put, List.setIfInBounds_toArray, List.set_cons_zero, List.set_cons_succ]
          refine wpAnyH_take (i := 9) (oi := { dst := some 22, op := Op.move (Operand.tmp 21), type := 4, pos := "ref.go:22", after := #[{ on := 8, ground := Ground.data }, { on := 6, ground := Ground.chain }, { on := 6, ground := Ground.guard }], guard := some (6, false) }) (v := undef) rfl (by kernel_rfl) (by kernel_rfl) (by kernel_rfl) (fun _ _ _ h => h) (Or.inr ⟨by rfl, rfl⟩) (by assumption) ?_
          try simp only [Act.put, List.setIfInBounds_toArray, List.set_cons_zero, List.set_cons_succ]
          refine wpAnyH_take (i := 10) (oi := { dst := some 23, op := Op.move (Operand.tmp 0), type := 26, pos := "ref.go:22", after := #[{ on := 9, ground := Ground.guard }], guard := some (9, true) }) (v := undef) rfl (by kernel_rfl) (by kernel_rfl) (by kernel_rfl) (fun _ _ _ h => h) (Or.inr ⟨by rfl, rfl⟩) (by assumption) ?_
          try simp only [Act.put, List.setIfInBounds_toArray, List.set_cons_zero, List.set_cons_succ]
          refine wpAnyH_take (i := 11) (oi := { dst := some 24, op := Op.move (Operand.tmp 3), type := 3, pos := "ref.go:22", after := #[{ on := 9, ground := Ground.guard }], guard := some (9, true) }) (v := undef) rfl (by kernel_rfl) (by kernel_rfl) (by kernel_rfl) (fun _ _ _ h => h) (Or.inr ⟨by rfl, rfl⟩) (by assumption) ?_
          try simp only [Act.put, List.setIfInBounds_toArray, List.set_cons_zero, List.set_cons_succ]
          refine wpAnyH_take (i := 12) (oi := { dst := some 25, op := Op.indexAddr 26 (Operand.tmp 23) (Operand.tmp 24), type := 0, pos := "ref.go:22", after := #[{ on := 10, ground := Ground.data }, { on := 11, ground := Ground.data }, { on := 9, ground := Ground.guard }], guard := some (9, true) }) (v := undef) rfl (by kernel_rfl) (by kernel_rfl) (by kernel_rfl) (fun _ _ _ h => h) (Or.inr ⟨by rfl, rfl⟩) (by assumption) ?_
          try simp only [Act.put, List.setIfInBounds_toArray, List.set_cons_zero, List.set_cons_succ]
          refine wpAnyH_take (i := 13) (oi := { dst := some 26, op := Op.fieldAddr 30 (Operand.tmp 25) 0, type := 0, pos := "ref.go:22", after := #[{ on := 12, ground := Ground.data }, { on := 9, ground := Ground.guard }], guard := some (9, true) }) (v := undef) rfl (by kernel_rfl) (by kernel_rfl) (by kernel_rfl) (fun _ _ _ h => h) (Or.inr ⟨by rfl, rfl⟩) (by assumption) ?_
          try simp only [Act.put, List.setIfInBounds_toArray, List.set_cons_zero, List.set_cons_succ]
          refine wpAnyH_take (i := 14) (oi := { dst := some 27, op := Op.load 3 (Operand.tmp 26), type := 3, pos := "ref.go:22", after := #[{ on := 13, ground := Ground.data }, { on := 9, ground := Ground.guard }], guard := some (9, true) }) (v := undef) rfl (by kernel_rfl) (by kernel_rfl) (by kernel_rfl) (fun _ _ _ h => h) (Or.inr ⟨by rfl, rfl⟩) (by assumption) ?_
          try simp only [Act.put, List.setIfInBounds_toArray, List.set_cons_zero, List.set_cons_succ]
          refine wpAnyH_take (i := 15) (oi := { dst := some 28, op := Op.move (Operand.tmp 0), type := 26, pos := "ref.go:22", after := #[{ on := 9, ground := Ground.guard }], guard := some (9, true) }) (v := undef) rfl (by kernel_rfl) (by kernel_rfl) (by kernel_rfl) (fun _ _ _ h => h) (Or.inr ⟨by rfl, rfl⟩) (by assumption) ?_
          try simp only [Act.put, List.setIfInBounds_toArray, List.set_cons_zero, List.set_cons_succ]
          refine wpAnyH_take (i := 16) (oi := { dst := some 29, op := Op.move (Operand.tmp 3), type := 3, pos := "ref.go:22", after := #[{ on := 9, ground := Ground.guard }], guard := some (9, true) }) (v := undef) rfl (by kernel_rfl) (by kernel_rfl) (by kernel_rfl) (fun _ _ _ h => h) (Or.inr ⟨by rfl, rfl⟩) (by assumption) ?_
          try simp only [Act.put, List.setIfInBounds_toArray, List.set_cons_zero, List.set_cons_succ]
          refine wpAnyH_take (i := 17) (oi := { dst := some 30, op := Op.binOp BinOp.sub 3 (Operand.tmp 29) (Operand.const (Value.int IntKind.i64 1)) 3, type := 3, pos := "ref.go:22", after := #[{ on := 16, ground := Ground.data }, { on := 9, ground := Ground.guard }], guard := some (9, true) }) (v := undef) rfl (by kernel_rfl) (by kernel_rfl) (by kernel_rfl) (fun _ _ _ h => h) (Or.inr ⟨by rfl, rfl⟩) (by assumption) ?_
          try simp only [Act.put, List.setIfInBounds_toArray, List.set_cons_zero, List.set_cons_succ]
          refine wpAnyH_take (i := 18) (oi := { dst := some 31, op := Op.indexAddr 26 (Operand.tmp 28) (Operand.tmp 30), type := 0, pos := "ref.go:22", after := #[{ on := 15, ground := Ground.data }, { on := 17, ground := Ground.data }, { on := 9, ground := Ground.guard }], guard := some (9, true) }) (v := undef) rfl (by kernel_rfl) (by kernel_rfl) (by kernel_rfl) (fun _ _ _ h => h) (Or.inr ⟨by rfl, rfl⟩) (by assumption) ?_
          try simp only [Act.put, List.setIfInBounds_toArray, List.set_cons_zero, List.set_cons_succ]
          refine wpAnyH_take (i := 19) (oi := { dst := some 32, op := Op.fieldAddr 30 (Operand.tmp 31) 0, type := 0, pos := "ref.go:22", after := #[{ on := 18, ground := Ground.data }, { on := 9, ground := Ground.guard }], guard := some (9, true) }) (v := undef) rfl (by kernel_rfl) (by kernel_rfl) (by kernel_rfl) (fun _ _ _ h => h) (Or.inr ⟨by rfl, rfl⟩) (by assumption) ?_
          try simp only [Act.put, List.setIfInBounds_toArray, List.set_cons_zero, List.set_cons_succ]
          refine wpAnyH_take (i := 20) (oi := { dst := some 33, op := Op.load 3 (Operand.tmp 32), type := 3, pos := "ref.go:22", after := #[{ on := 19, ground := Ground.data }, { on := 9, ground := Ground.guard }], guard := some (9, true) }) (v := undef) rfl (by kernel_rfl) (by kernel_rfl) (by kernel_rfl) (fun _ _ _ h => h) (Or.inr ⟨by rfl, rfl⟩) (by assumption) ?_
          try simp only [Act.put, List.setIfInBounds_toArray, List.set_cons_zero, List.set_cons_succ]
          refine wpAnyH_take (i := 21) (oi := { dst := some 34, op := Op.move (Operand.tmp 0), type := 26, pos := "ref.go:22", after := #[{ on := 9, ground := Ground.guard }], guard := some (9, true) }) (v := undef) rfl (by kernel_rfl) (by kernel_rfl) (by kernel_rfl) (fun _ _ _ h => h) (Or.inr ⟨by rfl, rfl⟩) (by assumption) ?_
          try simp only [Act.put, List.setIfInBounds_toArray, List.set_cons_zero, List.set_cons_succ]
          refine wpAnyH_take (i := 22) (oi := { dst := some 35, op := Op.move (Operand.tmp 3), type := 3, pos := "ref.go:22", after := #[{ on := 9, ground := Ground.guard }], guard := some (9, true) }) (v := undef) rfl (by kernel_rfl) (by kernel_rfl) (by kernel_rfl) (fun _ _ _ h => h) (Or.inr ⟨by rfl, rfl⟩) (by assumption) ?_
          try simp only [Act.put, List.setIfInBounds_toArray, List.set_cons_zero, List.set_cons_succ]
          refine wpAnyH_take (i := 23) (oi := { dst := some 36, op := Op.binOp BinOp.sub 3 (Operand.tmp 35) (Operand.const (Value.int IntKind.i64 1)) 3, type := 3, pos := "ref.go:22", after := #[{ on := 22, ground := Ground.data }, { on := 9, ground := Ground.guard }], guard := some (9, true) }) (v := undef) rfl (by kernel_rfl) (by kernel_rfl) (by kernel_rfl) (fun _ _ _ h => h) (Or.inr ⟨by rfl, rfl⟩) (by assumption) ?_
          try simp only [Act.put, List.setIfInBounds_toArray, List.set_cons_zero, List.set_cons_succ]
          refine wpAnyH_take (i := 24) (oi := { dst := some 37, op := Op.indexAddr 26 (Operand.tmp 34) (Operand.tmp 36), type := 0, pos := "ref.go:22", after := #[{ on := 21, ground := Ground.data }, { on := 23, ground := Ground.data }, { on := 9, ground := Ground.guard }], guard := some (9, true) }) (v := undef) rfl (by kernel_rfl) (by kernel_rfl) (by kernel_rfl) (fun _ _ _ h => h) (Or.inr ⟨by rfl, rfl⟩) (by assumption) ?_
          try simp only [Act.put, List.setIfInBounds_toArray, List.set_cons_zero, List.set_cons_succ]
          refine wpAnyH_take (i := 25) (oi := { dst := some 38, op := Op.fieldAddr 30 (Operand.tmp 37) 1, type := 0, pos := "ref.go:22", after := #[{ on := 24, ground := Ground.data }, { on := 9, ground := Ground.guard }], guard := some (9, true) }) (v := undef) rfl (by kernel_rfl) (by kernel_rfl) (by kernel_rfl) (fun _ _ _ h => h) (Or.inr ⟨by rfl, rfl⟩) (by assumption) ?_
          try simp only [Act.put, List.setIfInBounds_toArray, List.set_cons_zero, List.set_cons_succ]
          refine wpAnyH_take (i := 26) (oi := { dst := some 39, op := Op.load 3 (Operand.tmp 38), type := 3, pos := "ref.go:22", after := #[{ on := 25, ground := Ground.data }, { on := 9, ground := Ground.guard }], guard := some (9, true) }) (v := undef) rfl (by kernel_rfl) (by kernel_rfl) (by kernel_rfl) (fun _ _ _ h => h) (Or.inr ⟨by rfl, rfl⟩) (by assumption) ?_
          try simp only [Act.put, List.setIfInBounds_toArray, List.set_cons_zero, List.set_cons_succ]
          refine wpAnyH_take (i := 27) (oi := { dst := some 40, op := Op.binOp BinOp.add 3 (Operand.tmp 33) (Operand.tmp 39) 3, type := 3, pos := "ref.go:22", after := #[{ on := 20, ground := Ground.data }, { on := 26, ground := Ground.data }, { on := 9, ground := Ground.guard }], guard := some (9, true) }) (v := undef) rfl (by kernel_rfl) (by kernel_rfl) (by kernel_rfl) (fun _ _ _ h => h) (Or.inr ⟨by rfl, rfl⟩) (by assumption) ?_
          try simp only [Act.put, List.setIfInBounds_toArray, List.set_cons_zero, List.set_cons_succ]
          refine wpAnyH_take (i := 28) (oi := { dst := some 41, op := Op.binOp BinOp.lss 3 (Operand.tmp 27) (Operand.tmp 40) 3, type := 4, pos := "ref.go:22", after := #[{ on := 14, ground := Ground.data }, { on := 27, ground := Ground.data }, { on := 9, ground := Ground.guard }], guard := some (9, true) }) (v := undef) rfl (by kernel_rfl) (by kernel_rfl) (by kernel_rfl) (fun _ _ _ h => h) (Or.inr ⟨by rfl, rfl⟩) (by assumption) ?_
          try simp only [Act.put, List.setIfInBounds_toArray, List.set_cons_zero, List.set_cons_succ]
          refine wpAnyH_take (i := 29) (oi := { dst := some 42, op := Op.pick (Operand.tmp 22) (Operand.tmp 41) (Operand.const (Value.bool false)), type := 4, pos := "ref.go:22", after := #[{ on := 9, ground := Ground.data }, { on := 28, ground := Ground.data }, { on := 6, ground := Ground.guard }], guard := some (6, false) }) (v := undef) rfl (by kernel_rfl) (by kernel_rfl) (by kernel_rfl) (fun _ _ _ h => h) (Or.inr ⟨by rfl, rfl⟩) (by assumption) ?_
          try simp only [Act.put, List.setIfInBounds_toArray, List.set_cons_zero, List.set_cons_succ]
          refine wpAnyH_take (i := 30) (oi := { dst := some 43, op := Op.pick (Operand.tmp 19) (Operand.const (Value.bool true)) (Operand.tmp 42), type := 4, pos := "ref.go:22", after := #[{ on := 6, ground := Ground.data }, { on := 29, ground := Ground.data }], guard := none }) (v := ?_) rfl (by kernel_rfl) (by kernel_rfl) (by kernel_rfl) (fun _ _ _ h => h) (Or.inl ⟨by rfl, ?_⟩) (by assumption) ?_
          rotate_left
          focus ((intro w hSw; (try dsimp only at hSw); go_simp) <;> (try with_reducible rfl))
          try simp only [Act.put, List.setIfInBounds_toArray, List.set_cons_zero, List.set_cons_succ]
          refine wpAnyH_done (by kernel_rfl) ?_ _
          go_wp2_with fail
          go_ret
          exact RetW.mk (by rw [HV.out, hF]; rfl) HB3.out
        | true =>
          obtain ⟨e1, e2, e3⟩ := hends rfl
          by_cases hkz : k = 0
          · have hT := HST.out
            rw [hz0 hkz, decide_eq_true e1] at hT
            have HT := Lib.hid hT
            have hkz2 : (k : Int) ≤ 0 := by omega
            have hkz3 : ¬ 0 < k := by omega
            clear hT hprev hz0 hends HST HFA hkz
            go_wp2_with fail
            refine wp_region_held_drew (S := fun w' => w'.cell? ⟨g, k * 5, none⟩ = some (.int .i64 s) ∧ w'.cell? ⟨g, k * 5 + 1, none⟩ = some (.int .i64 c) ∧ w'.cell? ⟨g, k * 5 + 2, none⟩ = some (.int .i64 f) ∧ w'.cell? ⟨g, k * 5 + 3, none⟩ = some (.int .i64 p) ∧ w'.cell? ⟨g, k * 5 + 4, none⟩ = some (.bool wb)) (by kernel_rfl) (by (try dsimp only); go_keep) (fun hHeld => ?_)
            refine wpAnyH_take (i := 0) (oi := { dst := some 13, op := Op.move (Operand.tmp 0), type := 26, pos := "ref.go:22", after := #[], guard := none }) (v := ?_) rfl (by kernel_rfl) (by kernel_rfl) (by kernel_rfl) (fun _ _ _ h => h) (Or.inl ⟨by rfl, ?_⟩) (by assumption) ?_
            rotate_left
            focus ((intro w hSw; (try dsimp only at hSw); go_simp) <;> (try with_reducible rfl))
            try simp only [Act.put, List.setIfInBounds_toArray, List.set_cons_zero, List.set_cons_succ]
            refine wpAnyH_take (i := 1) (oi := { dst := some 14, op := Op.move (Operand.tmp 3), type := 3, pos := "ref.go:22", after := #[], guard := none }) (v := ?_) rfl (by kernel_rfl) (by kernel_rfl) (by kernel_rfl) (fun _ _ _ h => h) (Or.inl ⟨by rfl, ?_⟩) (by assumption) ?_
            rotate_left
            focus ((intro w hSw; (try dsimp only at hSw); go_simp) <;> (try with_reducible rfl))
            try simp only [Act.put, List.setIfInBounds_toArray, List.set_cons_zero, List.set_cons_succ]
            refine wpAnyH_take (i := 2) (oi := { dst := some 15, op := Op.indexAddr 26 (Operand.tmp 13) (Operand.tmp 14), type := 0, pos := "ref.go:22", after := #[{ on := 0, ground := Ground.data }, { on := 1, ground := Ground.data }], guard := none }) (v := ?_) rfl (by kernel_rfl) (by kernel_rfl) (by kernel_rfl) (fun _ _ _ h => h) (Or.inl ⟨by rfl, ?_⟩) (by assumption) ?_
            rotate_left
            focus ((intro w hSw; (try dsimp only at hSw); go_simp) <;> (try with_reducible rfl))
            try simp only [Act.put, List.setIfInBounds_toArray, List.set_cons_zero, List.set_cons_succ]
            refine wpAnyH_take (i := 3) (oi := { dst := some 16, op := Op.load 30 (Operand.tmp 15), type := 30, pos := "ref.go:22", after := #[{ on := 2, ground := Ground.data }], guard := none }) (v := ?_) rfl (by kernel_rfl) (by kernel_rfl) (by kernel_rfl) (fun _ _ _ h => h) (Or.inl ⟨by rfl, ?_⟩) (by assumption) ?_
            rotate_left
            focus ((intro w hSw; (try dsimp only at hSw); go_simp) <;> (try with_reducible rfl))
            try simp only [Act.put, List.setIfInBounds_toArray, List.set_cons_zero, List.set_cons_succ]
            refine wpAnyH_ready (rs := [4]) (by kernel_rfl) (by simp) ?_
            refine AllReadyH.cons (o := { dst := some 17, op := Op.call { callee := Callee.value (Operand.func 31), args := #[Operand.tmp 16], argTypes := #[30] }, type := 4, pos := "ref.go:22", after := #[{ on := 3, ground := Ground.data }], guard := none }) rfl (fun K hK => ?_) AllReadyH.nil
            go_simp
            (first | (go_at_call 31; refine (HR.out _).mono ?_; rintro e w3 ⟨rfl, hb⟩; have j0 := (hb.cell (p := ⟨g, k * 5, none⟩) hg2).trans k0; have j1 := (hb.cell (p := ⟨g, k * 5 + 1, none⟩) hg2).trans k1; have j2 := (hb.cell (p := ⟨g, k * 5 + 2, none⟩) hg2).trans k2; have j3 := (hb.cell (p := ⟨g, k * 5 + 3, none⟩) hg2).trans k3; have j4 := (hb.cell (p := ⟨g, k * 5 + 4, none⟩) hg2).trans k4; have HB3 := Lib.hid (HBd.out.trans (hb.mono HBd.out.size))))
            go_wp2_with fail
            refine hK.out _ _ (by (try dsimp only); go_keep) (fun hHeld => ?_)
            clear hK K
            try simp only [Act.put, List.setIfInBounds_toArray, List.set_cons_zero, List.set_cons_succ]
            refine wpAnyH_take (i := 5) (oi := { dst := some 18, op := Op.unOp UnOp.not 4 (Operand.tmp 17), type := 4, pos := "ref.go:22", after := #[{ on := 4, ground := Ground.data }], guard := none }) (v := ?_) rfl (by kernel_rfl) (by kernel_rfl) (by kernel_rfl) (fun _ _ _ h => h) (Or.inl ⟨by rfl, ?_⟩) (by assumption) ?_
            rotate_left
            focus ((intro w hSw; (try dsimp only at hSw); go_simp) <;> (try with_reducible rfl))
            try simp only [Act.put, List.setIfInBounds_toArray, List.set_cons_zero, List.set_cons_succ]
            refine wpAnyH_take (i := 6) (oi := { dst := some 19, op := Op.move (Operand.tmp 18), type := 4, pos := "ref.go:22", after := #[{ on := 5, ground := Ground.data }, { on := 4, ground := Ground.chain }], guard := none }) (v := ?_) rfl (by kernel_rfl) (by kernel_rfl) (by kernel_rfl) (fun _ _ _ h => h) (Or.inl ⟨by rfl, ?_⟩) (by assumption) ?_
            rotate_left
            focus ((intro w hSw; (try dsimp only at hSw); go_simp) <;> (try with_reducible rfl))
            try simp only [Act.put, List.setIfInBounds_toArray, List.set_cons_zero, List.set_cons_succ]
            refine wpAnyH_take (i := 7) (oi := { dst := some 20, op := Op.move (Operand.tmp 3), type := 3, pos := "ref.go:22", after := #[{ on := 6, ground := Ground.guard }], guard := some (6, false) }) (v := ?_) rfl (by kernel_rfl) (by kernel_rfl) (by kernel_rfl) (fun _ _ _ h => h) (Or.inl ⟨by rfl, ?_⟩) (by assumption) ?_
            rotate_left
            focus ((intro w hSw; (try dsimp only at hSw); go_simp) <;> (try with_reducible rfl))
            try simp only [Act.put, List.setIfInBounds_toArray, List.set_cons_zero, List.set_cons_succ]
            refine wpAnyH_take (i := 8) (oi := { dst := some 21, op := Op.binOp BinOp.gtr 3 (Operand.tmp 20) (Operand.const (Value.int IntKind.i64 0)) 3, type := 4, pos := "ref.go:22", after := #[{ on := 7, ground := Ground.data }, { on := 6, ground := Ground.guard }], guard := some (6, false) }) (v := ?_) rfl (by kernel_rfl) (by kernel_rfl) (by kernel_rfl) (fun _ _ _ h => h) (Or.inl ⟨by rfl, ?_⟩) (by assumption) ?_
            rotate_left
            focus ((intro w hSw; (try dsimp only at hSw); go_simp) <;> (try with_reducible rfl))
            try simp only [Act.put, List.setIfInBounds_toArray, List.set_cons_zero, List.set_cons_succ]
            refine wpAnyH_take (i := 9) (oi := { dst := some 22, op := Op.move (Operand.tmp 21), type := 4, pos := "ref.go:22", after := #[{ on := 8, ground := Ground.data }, { on := 6, ground := Ground.chain }, { on := 6, ground := Ground.guard }], guard := some (6, false) }) (v := ?_) rfl (by kernel_rfl) (by kernel_rfl) (by kernel_rfl) (fun _ _ _ h => h) (Or.inl ⟨by rfl, ?_⟩) (by assumption) ?_
            rotate_left
            focus ((intro w hSw; (try dsimp only at hSw); go_simp) <;> (try with_reducible rfl))
            try simp only [Act.put, List.setIfInBounds_toArray, List.set_cons_zero, List.set_cons_succ]
            refine wpAnyH_take (i := 10) (oi := { dst := some 23, op := Op.move (Operand.tmp 0), type := 26, pos := "ref.go:22", after := #[{ on := 9, ground := Ground.guard }], guard := some (9, true) }) (v := undef) rfl (by kernel_rfl) (by kernel_rfl) (by kernel_rfl) (fun _ _ _ h => h) (Or.inr ⟨by rfl, rfl⟩) (by assumption) ?_
            try simp only [Act.put, List.setIfInBounds_toArray, List.set_cons_zero, List.set_cons_succ]
            refine wpAnyH_take (i := 11) (oi := { dst := some 24, op := Op.move (Operand.tmp 3), type := 3, pos := "ref.go:22", after := #[{ on := 9, ground := Ground.guard }], guard := some (9, true) }) (v := undef) rfl (by kernel_rfl) (by kernel_rfl) (by kernel_rfl) (fun _ _ _ h => h) (Or.inr ⟨by rfl, rfl⟩) (by assumption) ?_
            try simp only [Act.put, List.setIfInBounds_toArray, List.set_cons_zero, List.set_cons_succ]
            refine wpAnyH_take (i := 12) (oi := { dst := some 25, op := Op.indexAddr 26 (Operand.tmp 23) (Operand.tmp 24), type := 0, pos := "ref.go:22", after := #[{ on := 10, ground := Ground.data }, { on := 11, ground := Ground.data }, { on := 9, ground := Ground.guard }], guard := some (9, true) }) (v := undef) rfl (by kernel_rfl) (by kernel_rfl) (by kernel_rfl) (fun _ _ _ h => h) (Or.inr ⟨by rfl, rfl⟩) (by assumption) ?_
            try simp only [Act.put, List.setIfInBounds_toArray, List.set_cons_zero, List.set_cons_succ]
            refine wpAnyH_take (i := 13) (oi := { dst := some 26, op := Op.fieldAddr 30 (Operand.tmp 25) 0, type := 0, pos := "ref.go:22", after := #[{ on := 12, ground := Ground.data }, { on := 9, ground := Ground.guard }], guard := some (9, true) }) (v := undef) rfl (by kernel_rfl) (by kernel_rfl) (by kernel_rfl) (fun _ _ _ h => h) (Or.inr ⟨by rfl, rfl⟩) (by assumption) ?_
            try simp only [Act.put, List.setIfInBounds_toArray, List.set_cons_zero, List.set_cons_succ]
            refine wpAnyH_take (i := 14) (oi := { dst := some 27, op := Op.load 3 (Operand.tmp 26), type := 3, pos := "ref.go:22", after := #[{ on := 13, ground := Ground.data }, { on := 9, ground := Ground.guard }], guard := some (9, true) }) (v := undef) rfl (by kernel_rfl) (by kernel_rfl) (by kernel_rfl) (fun _ _ _ h => h) (Or.inr ⟨by rfl, rfl⟩) (by assumption) ?_
            try simp only [Act.put, List.setIfInBounds_toArray, List.set_cons_zero, List.set_cons_succ]
            refine wpAnyH_take (i := 15) (oi := { dst := some 28, op := Op.move (Operand.tmp 0), type := 26, pos := "ref.go:22", after := #[{ on := 9, ground := Ground.guard }], guard := some (9, true) }) (v := undef) rfl (by kernel_rfl) (by kernel_rfl) (by kernel_rfl) (fun _ _ _ h => h) (Or.inr ⟨by rfl, rfl⟩) (by assumption) ?_
            try simp only [Act.put, List.setIfInBounds_toArray, List.set_cons_zero, List.set_cons_succ]
            refine wpAnyH_take (i := 16) (oi := { dst := some 29, op := Op.move (Operand.tmp 3), type := 3, pos := "ref.go:22", after := #[{ on := 9, ground := Ground.guard }], guard := some (9, true) }) (v := undef) rfl (by kernel_rfl) (by kernel_rfl) (by kernel_rfl) (fun _ _ _ h => h) (Or.inr ⟨by rfl, rfl⟩) (by assumption) ?_
            try simp only [Act.put, List.setIfInBounds_toArray, List.set_cons_zero, List.set_cons_succ]
            refine wpAnyH_take (i := 17) (oi := { dst := some 30, op := Op.binOp BinOp.sub 3 (Operand.tmp 29) (Operand.const (Value.int IntKind.i64 1)) 3, type := 3, pos := "ref.go:22", after := #[{ on := 16, ground := Ground.data }, { on := 9, ground := Ground.guard }], guard := some (9, true) }) (v := undef) rfl (by kernel_rfl) (by kernel_rfl) (by kernel_rfl) (fun _ _ _ h => h) (Or.inr ⟨by rfl, rfl⟩) (by assumption) ?_
            try simp only [Act.put, List.setIfInBounds_toArray, List.set_cons_zero, List.set_cons_succ]
            refine wpAnyH_take (i := 18) (oi := { dst := some 31, op := Op.indexAddr 26 (Operand.tmp 28) (Operand.tmp 30), type := 0, pos := "ref.go:22", after := #[{ on := 15, ground := Ground.data }, { on := 17, ground := Ground.data }, { on := 9, ground := Ground.guard }], guard := some (9, true) }) (v := undef) rfl (by kernel_rfl) (by kernel_rfl) (by kernel_rfl) (fun _ _ _ h => h) (Or.inr ⟨by rfl, rfl⟩) (by assumption) ?_
            try simp only [Act.put, List.setIfInBounds_toArray, List.set_cons_zero, List.set_cons_succ]
            refine wpAnyH_take (i := 19) (oi := { dst := some 32, op := Op.fieldAddr 30 (Operand.tmp 31) 0, type := 0, pos := "ref.go:22", after := #[{ on := 18, ground := Ground.data }, { on := 9, ground := Ground.guard }], guard := some (9, true) }) (v := undef) rfl (by kernel_rfl) (by kernel_rfl) (by kernel_rfl) (fun _ _ _ h => h) (Or.inr ⟨by rfl, rfl⟩) (by assumption) ?_
            try simp only [Act.put, List.setIfInBounds_toArray, List.set_cons_zero, List.set_cons_succ]
            refine wpAnyH_take (i := 20) (oi := { dst := some 33, op := Op.load 3 (Operand.tmp 32), type := 3, pos := "ref.go:22", after := #[{ on := 19, ground := Ground.data }, { on := 9, ground := Ground.guard }], guard := some (9, true) }) (v := undef) rfl (by kernel_rfl) (by kernel_rfl) (by kernel_rfl) (fun _ _ _ h => h) (Or.inr ⟨by rfl, rfl⟩) (by assumption) ?_
            try simp only [Act.put, List.setIfInBounds_toArray, List.set_cons_zero, List.set_cons_succ]
            refine wpAnyH_take (i := 21) (oi := { dst := some 34, op := Op.move (Operand.tmp 0), type := 26, pos := "ref.go:22", after := #[{ on := 9, ground := Ground.guard }], guard := some (9, true) }) (v := undef) rfl (by kernel_rfl) (by kernel_rfl) (by kernel_rfl) (fun _ _ _ h => h) (Or.inr ⟨by rfl, rfl⟩) (by assumption) ?_
            try simp only [Act.put, List.setIfInBounds_toArray, List.set_cons_zero, List.set_cons_succ]
            refine wpAnyH_take (i := 22) (oi := { dst := some 35, op := Op.move (Operand.tmp 3), type := 3, pos := "ref.go:22", after := #[{ on := 9, ground := Ground.guard }], guard := some (9, true) }) (v := undef) rfl (by kernel_rfl) (by kernel_rfl) (by kernel_rfl) (fun _ _ _ h => h) (Or.inr ⟨by rfl, rfl⟩) (by assumption) ?_
            try simp only [Act.put, List.setIfInBounds_toArray, List.set_cons_zero, List.set_cons_succ]
            refine wpAnyH_take (i := 23) (oi := { dst := some 36, op := Op.binOp BinOp.sub 3 (Operand.tmp 35) (Operand.const (Value.int IntKind.i64 1)) 3, type := 3, pos := "ref.go:22", after := #[{ on := 22, ground := Ground.data }, { on := 9, ground := Ground.guard }], guard := some (9, true) }) (v := undef) rfl (by kernel_rfl) (by kernel_rfl) (by kernel_rfl) (fun _ _ _ h => h) (Or.inr ⟨by rfl, rfl⟩) (by assumption) ?_
            try simp only [Act.put, List.setIfInBounds_toArray, List.set_cons_zero, List.set_cons_succ]
            refine wpAnyH_take (i := 24) (oi := { dst := some 37, op := Op.indexAddr 26 (Operand.tmp 34) (Operand.tmp 36), type := 0, pos := "ref.go:22", after := #[{ on := 21, ground := Ground.data }, { on := 23, ground := Ground.data }, { on := 9, ground := Ground.guard }], guard := some (9, true) }) (v := undef) rfl (by kernel_rfl) (by kernel_rfl) (by kernel_rfl) (fun _ _ _ h => h) (Or.inr ⟨by rfl, rfl⟩) (by assumption) ?_
            try simp only [Act.put, List.setIfInBounds_toArray, List.set_cons_zero, List.set_cons_succ]
            refine wpAnyH_take (i := 25) (oi := { dst := some 38, op := Op.fieldAddr 30 (Operand.tmp 37) 1, type := 0, pos := "ref.go:22", after := #[{ on := 24, ground := Ground.data }, { on := 9, ground := Ground.guard }], guard := some (9, true) }) (v := undef) rfl (by kernel_rfl) (by kernel_rfl) (by kernel_rfl) (fun _ _ _ h => h) (Or.inr ⟨by rfl, rfl⟩) (by assumption) ?_
            try simp only [Act.put, List.setIfInBounds_toArray, List.set_cons_zero, List.set_cons_succ]
            refine wpAnyH_take (i := 26) (oi := { dst := some 39, op := Op.load 3 (Operand.tmp 38), type := 3, pos := "ref.go:22", after := #[{ on := 25, ground := Ground.data }, { on := 9, ground := Ground.guard }], guard := some (9, true) }) (v := undef) rfl (by kernel_rfl) (by kernel_rfl) (by kernel_rfl) (fun _ _ _ h => h) (Or.inr ⟨by rfl, rfl⟩) (by assumption) ?_
            try simp only [Act.put, List.setIfInBounds_toArray, List.set_cons_zero, List.set_cons_succ]
            refine wpAnyH_take (i := 27) (oi := { dst := some 40, op := Op.binOp BinOp.add 3 (Operand.tmp 33) (Operand.tmp 39) 3, type := 3, pos := "ref.go:22", after := #[{ on := 20, ground := Ground.data }, { on := 26, ground := Ground.data }, { on := 9, ground := Ground.guard }], guard := some (9, true) }) (v := undef) rfl (by kernel_rfl) (by kernel_rfl) (by kernel_rfl) (fun _ _ _ h => h) (Or.inr ⟨by rfl, rfl⟩) (by assumption) ?_
            try simp only [Act.put, List.setIfInBounds_toArray, List.set_cons_zero, List.set_cons_succ]
            refine wpAnyH_take (i := 28) (oi := { dst := some 41, op := Op.binOp BinOp.lss 3 (Operand.tmp 27) (Operand.tmp 40) 3, type := 4, pos := "ref.go:22", after := #[{ on := 14, ground := Ground.data }, { on := 27, ground := Ground.data }, { on := 9, ground := Ground.guard }], guard := some (9, true) }) (v := undef) rfl (by kernel_rfl) (by kernel_rfl) (by kernel_rfl) (fun _ _ _ h => h) (Or.inr ⟨by rfl, rfl⟩) (by assumption) ?_
            try simp only [Act.put, List.setIfInBounds_toArray, List.set_cons_zero, List.set_cons_succ]
            refine wpAnyH_take (i := 29) (oi := { dst := some 42, op := Op.pick (Operand.tmp 22) (Operand.tmp 41) (Operand.const (Value.bool false)), type := 4, pos := "ref.go:22", after := #[{ on := 9, ground := Ground.data }, { on := 28, ground := Ground.data }, { on := 6, ground := Ground.guard }], guard := some (6, false) }) (v := ?_) rfl (by kernel_rfl) (by kernel_rfl) (by kernel_rfl) (fun _ _ _ h => h) (Or.inl ⟨by rfl, ?_⟩) (by assumption) ?_
            rotate_left
            focus ((intro w hSw; (try dsimp only at hSw); go_simp) <;> (try with_reducible rfl))
            try simp only [Act.put, List.setIfInBounds_toArray, List.set_cons_zero, List.set_cons_succ]
            refine wpAnyH_take (i := 30) (oi := { dst := some 43, op := Op.pick (Operand.tmp 19) (Operand.const (Value.bool true)) (Operand.tmp 42), type := 4, pos := "ref.go:22", after := #[{ on := 6, ground := Ground.data }, { on := 29, ground := Ground.data }], guard := none }) (v := ?_) rfl (by kernel_rfl) (by kernel_rfl) (by kernel_rfl) (fun _ _ _ h => h) (Or.inl ⟨by rfl, ?_⟩) (by assumption) ?_
            rotate_left
            focus ((intro w hSw; (try dsimp only at hSw); go_simp) <;> (try with_reducible rfl))
            try simp only [Act.put, List.setIfInBounds_toArray, List.set_cons_zero, List.set_cons_succ]
            refine wpAnyH_done (by kernel_rfl) ?_ _
            go_wp2_with fail
            go_roundw
            case rel => exact ⟨k + 1, by omega, by go_num, HB3, HT⟩
            case measure => simp [intOf]; omega
          · obtain ⟨j, hj⟩ : ∃ j, k = j + 1 := ⟨k - 1, by omega⟩
            obtain ⟨s', c', ela, es, ec, esc, p0, p1⟩ := hprev j hj
            rw [ela] at HST HFA
            have hw1 : IntKind.i64.wrap (s' + c') = s' + c' := IntWalk.i64_in _ (by omega)
            have hj0 : (0 : Int) < (k : Int) := by omega
            have hj0n : 0 < k := by omega
            have hj1 : (j : Int) < (l.length : Int) := by omega
            have hj2 : IntKind.i64.wrap (j : Int) = (j : Int) := IntWalk.i64_in _ (by omega)
            have hj3 : (k : Int) - 1 = (j : Int) := by omega
            clear hprev hz0 hends ela hj hkz
            by_cases hla : s' + c' ≤ s
            · have hT := HST.out
              rw [decide_eq_true hla] at hT
              have HT := Lib.hid hT
              clear hT HST HFA
              go_wp2_with fail
              refine wp_region_held_drew (S := fun w' => w'.cell? ⟨g, k * 5, none⟩ = some (.int .i64 s) ∧ w'.cell? ⟨g, k * 5 + 1, none⟩ = some (.int .i64 c) ∧ w'.cell? ⟨g, k * 5 + 2, none⟩ = some (.int .i64 f) ∧ w'.cell? ⟨g, k * 5 + 3, none⟩ = some (.int .i64 p) ∧ w'.cell? ⟨g, k * 5 + 4, none⟩ = some (.bool wb) ∧ w'.cell? ⟨g, j * 5, none⟩ = some (.int .i64 s') ∧ w'.cell? ⟨g, j * 5 + 1, none⟩ = some (.int .i64 c')) (by kernel_rfl) (by (try dsimp only); go_keep) (fun hHeld => ?_)
              refine wpAnyH_take (i := 0) (oi := { dst := some 13, op := Op.move (Operand.tmp 0), type := 26, pos := "ref.go:22", after := #[], guard := none }) (v := ?_) rfl (by kernel_rfl) (by kernel_rfl) (by kernel_rfl) (fun _ _ _ h => h) (Or.inl ⟨by rfl, ?_⟩) (by assumption) ?_
              rotate_left
              focus ((intro w hSw; (try dsimp only at hSw); go_simp) <;> (try with_reducible rfl))
              try simp only [Act.put, List.setIfInBounds_toArray, List.set_cons_zero, List.set_cons_succ]
              refine wpAnyH_take (i := 1) (oi := { dst := some 14, op := Op.move (Operand.tmp 3), type := 3, pos := "ref.go:22", after := #[], guard := none }) (v := ?_) rfl (by kernel_rfl) (by kernel_rfl) (by kernel_rfl) (fun _ _ _ h => h) (Or.inl ⟨by rfl, ?_⟩) (by assumption) ?_
              rotate_left
              focus ((intro w hSw; (try dsimp only at hSw); go_simp) <;> (try with_reducible rfl))
              try simp only [Act.put, List.setIfInBounds_toArray, List.set_cons_zero, List.set_cons_succ]
              refine wpAnyH_take (i := 2) (oi := { dst := some 15, op := Op.indexAddr 26 (Operand.tmp 13) (Operand.tmp 14), type := 0, pos := "ref.go:22", after := #[{ on := 0, ground := Ground.data }, { on := 1, ground := Ground.data }], guard := none }) (v := ?_) rfl (by kernel_rfl) (by kernel_rfl) (by kernel_rfl) (fun _ _ _ h => h) (Or.inl ⟨by rfl, ?_⟩) (by assumption) ?_
              rotate_left
              focus ((intro w hSw; (try dsimp only at hSw); go_simp) <;> (try with_reducible rfl))
              try simp only [Act.put, List.setIfInBounds_toArray, List.set_cons_zero, List.set_cons_succ]
              refine wpAnyH_take (i := 3) (oi := { dst := some 16, op := Op.load 30 (Operand.tmp 15), type := 30, pos := "ref.go:22", after := #[{ on := 2, ground := Ground.data }], guard := none }) (v := ?_) rfl (by kernel_rfl) (by kernel_rfl) (by kernel_rfl) (fun _ _ _ h => h) (Or.inl ⟨by rfl, ?_⟩) (by assumption) ?_
              rotate_left
              focus ((intro w hSw; (try dsimp only at hSw); go_simp) <;> (try with_reducible rfl))
              try simp only [Act.put, List.setIfInBounds_toArray, List.set_cons_zero, List.set_cons_succ]
              refine wpAnyH_ready (rs := [4]) (by kernel_rfl) (by simp) ?_
              refine AllReadyH.cons (o := { dst := some 17, op := Op.call { callee := Callee.value (Operand.func 31), args := #[Operand.tmp 16], argTypes := #[30] }, type := 4, pos := "ref.go:22", after := #[{ on := 3, ground := Ground.data }], guard := none }) rfl (fun K hK => ?_) AllReadyH.nil
              go_simp
              (first | (go_at_call 31; refine (HR.out _).mono ?_; rintro e w3 ⟨rfl, hb⟩; have j0 := (hb.cell (p := ⟨g, k * 5, none⟩) hg2).trans k0; have j1 := (hb.cell (p := ⟨g, k * 5 + 1, none⟩) hg2).trans k1; have j2 := (hb.cell (p := ⟨g, k * 5 + 2, none⟩) hg2).trans k2; have j3 := (hb.cell (p := ⟨g, k * 5 + 3, none⟩) hg2).trans k3; have j4 := (hb.cell (p := ⟨g, k * 5 + 4, none⟩) hg2).trans k4; have i0 := (hb.cell (p := ⟨g, j * 5, none⟩) hg2).trans p0; have i1 := (hb.cell (p := ⟨g, j * 5 + 1, none⟩) hg2).trans p1; have HB3 := Lib.hid (HBd.out.trans (hb.mono HBd.out.size))))
              go_wp2_with fail
              refine hK.out _ _ (by (try dsimp only); go_keep) (fun hHeld => ?_)
              clear hK K
              try simp only [Act.put, List.setIfInBounds_toArray, List.set_cons_zero, List.set_cons_succ]
              refine wpAnyH_take (i := 5) (oi := { dst := some 18, op := Op.unOp UnOp.not 4 (Operand.tmp 17), type := 4, pos := "ref.go:22", after := #[{ on := 4, ground := Ground.data }], guard := none }) (v := ?_) rfl (by kernel_rfl) (by kernel_rfl) (by kernel_rfl) (fun _ _ _ h => h) (Or.inl ⟨by rfl, ?_⟩) (by assumption) ?_
              rotate_left
              focus ((intro w hSw; (try dsimp only at hSw); go_simp) <;> (try with_reducible rfl))
              try simp only [Act.put, List.setIfInBounds_toArray, List.set_cons_zero, List.set_cons_succ]
              refine wpAnyH_take (i := 6) (oi := { dst := some 19, op := Op.move (Operand.tmp 18), type := 4, pos := "ref.go:22", after := #[{ on := 5, ground := Ground.data }, { on := 4, ground := Ground.chain }], guard := none }) (v := ?_) rfl (by kernel_rfl) (by kernel_rfl) (by kernel_rfl) (fun _ _ _ h => h) (Or.inl ⟨by rfl, ?_⟩) (by assumption) ?_
              rotate_left
              focus ((intro w hSw; (try dsimp only at hSw); go_simp) <;> (try with_reducible rfl))
              try simp only [Act.put, List.setIfInBounds_toArray, List.set_cons_zero, List.set_cons_succ]
              refine wpAnyH_take (i := 7) (oi := { dst := some 20, op := Op.move (Operand.tmp 3), type := 3, pos := "ref.go:22", after := #[{ on := 6, ground := Ground.guard }], guard := some (6, false) }) (v := ?_) rfl (by kernel_rfl) (by kernel_rfl) (by kernel_rfl) (fun _ _ _ h => h) (Or.inl ⟨by rfl, ?_⟩) (by assumption) ?_
              rotate_left
              focus ((intro w hSw; (try dsimp only at hSw); go_simp) <;> (try with_reducible rfl))
              try simp only [Act.put, List.setIfInBounds_toArray, List.set_cons_zero, List.set_cons_succ]
              refine wpAnyH_take (i := 8) (oi := { dst := some 21, op := Op.binOp BinOp.gtr 3 (Operand.tmp 20) (Operand.const (Value.int IntKind.i64 0)) 3, type := 4, pos := "ref.go:22", after := #[{ on := 7, ground := Ground.data }, { on := 6, ground := Ground.guard }], guard := some (6, false) }) (v := ?_) rfl (by kernel_rfl) (by kernel_rfl) (by kernel_rfl) (fun _ _ _ h => h) (Or.inl ⟨by rfl, ?_⟩) (by assumption) ?_
              rotate_left
              focus ((intro w hSw; (try dsimp only at hSw); go_simp) <;> (try with_reducible rfl))
              try simp only [Act.put, List.setIfInBounds_toArray, List.set_cons_zero, List.set_cons_succ]
              refine wpAnyH_take (i := 9) (oi := { dst := some 22, op := Op.move (Operand.tmp 21), type := 4, pos := "ref.go:22", after := #[{ on := 8, ground := Ground.data }, { on := 6, ground := Ground.chain }, { on := 6, ground := Ground.guard }], guard := some (6, false) }) (v := ?_) rfl (by kernel_rfl) (by kernel_rfl) (by kernel_rfl) (fun _ _ _ h => h) (Or.inl ⟨by rfl, ?_⟩) (by assumption) ?_
              rotate_left
              focus ((intro w hSw; (try dsimp only at hSw); go_simp) <;> (try with_reducible rfl))
              try simp only [Act.put, List.setIfInBounds_toArray, List.set_cons_zero, List.set_cons_succ]
              refine wpAnyH_take (i := 10) (oi := { dst := some 23, op := Op.move (Operand.tmp 0), type := 26, pos := "ref.go:22", after := #[{ on := 9, ground := Ground.guard }], guard := some (9, true) }) (v := ?_) rfl (by kernel_rfl) (by kernel_rfl) (by kernel_rfl) (fun _ _ _ h => h) (Or.inl ⟨by rfl, ?_⟩) (by assumption) ?_
              rotate_left
              focus ((intro w hSw; (try dsimp only at hSw); go_simp) <;> (try with_reducible rfl))
              try simp only [Act.put, List.setIfInBounds_toArray, List.set_cons_zero, List.set_cons_succ]
              refine wpAnyH_take (i := 11) (oi := { dst := some 24, op := Op.move (Operand.tmp 3), type := 3, pos := "ref.go:22", after := #[{ on := 9, ground := Ground.guard }], guard := some (9, true) }) (v := ?_) rfl (by kernel_rfl) (by kernel_rfl) (by kernel_rfl) (fun _ _ _ h => h) (Or.inl ⟨by rfl, ?_⟩) (by assumption) ?_
              rotate_left
              focus ((intro w hSw; (try dsimp only at hSw); go_simp) <;> (try with_reducible rfl))
              try simp only [Act.put, List.setIfInBounds_toArray, List.set_cons_zero, List.set_cons_succ]
              refine wpAnyH_take (i := 12) (oi := { dst := some 25, op := Op.indexAddr 26 (Operand.tmp 23) (Operand.tmp 24), type := 0, pos := "ref.go:22", after := #[{ on := 10, ground := Ground.data }, { on := 11, ground := Ground.data }, { on := 9, ground := Ground.guard }], guard := some (9, true) }) (v := ?_) rfl (by kernel_rfl) (by kernel_rfl) (by kernel_rfl) (fun _ _ _ h => h) (Or.inl ⟨by rfl, ?_⟩) (by assumption) ?_
              rotate_left
              focus ((intro w hSw; (try dsimp only at hSw); go_simp) <;> (try with_reducible rfl))
              try simp only [Act.put, List.setIfInBounds_toArray, List.set_cons_zero, List.set_cons_succ]
              refine wpAnyH_take (i := 13) (oi := { dst := some 26, op := Op.fieldAddr 30 (Operand.tmp 25) 0, type := 0, pos := "ref.go:22", after := #[{ on := 12, ground := Ground.data }, { on := 9, ground := Ground.guard }], guard := some (9, true) }) (v := ?_) rfl (by kernel_rfl) (by kernel_rfl) (by kernel_rfl) (fun _ _ _ h => h) (Or.inl ⟨by rfl, ?_⟩) (by assumption) ?_
              rotate_left
              focus ((intro w hSw; (try dsimp only at hSw); go_simp) <;> (try with_reducible rfl))
              try simp only [Act.put, List.setIfInBounds_toArray, List.set_cons_zero, List.set_cons_succ]
              refine wpAnyH_take (i := 14) (oi := { dst := some 27, op := Op.load 3 (Operand.tmp 26), type := 3, pos := "ref.go:22", after := #[{ on := 13, ground := Ground.data }, { on := 9, ground := Ground.guard }], guard := some (9, true) }) (v := ?_) rfl (by kernel_rfl) (by kernel_rfl) (by kernel_rfl) (fun _ _ _ h => h) (Or.inl ⟨by rfl, ?_⟩) (by assumption) ?_
              rotate_left
              focus ((intro w hSw; (try dsimp only at hSw); go_simp) <;> (try with_reducible rfl))
              try simp only [Act.put, List.setIfInBounds_toArray, List.set_cons_zero, List.set_cons_succ]
              refine wpAnyH_take (i := 15) (oi := { dst := some 28, op := Op.move (Operand.tmp 0), type := 26, pos := "ref.go:22", after := #[{ on := 9, ground := Ground.guard }], guard := some (9, true) }) (v := ?_) rfl (by kernel_rfl) (by kernel_rfl) (by kernel_rfl) (fun _ _ _ h => h) (Or.inl ⟨by rfl, ?_⟩) (by assumption) ?_
              rotate_left
              focus ((intro w hSw; (try dsimp only at hSw); go_simp) <;> (try with_reducible rfl))
              try simp only [Act.put, List.setIfInBounds_toArray, List.set_cons_zero, List.set_cons_succ]
              refine wpAnyH_take (i := 16) (oi := { dst := some 29, op := Op.move (Operand.tmp 3), type := 3, pos := "ref.go:22", after := #[{ on := 9, ground := Ground.guard }], guard := some (9, true) }) (v := ?_) rfl (by kernel_rfl) (by kernel_rfl) (by kernel_rfl) (fun _ _ _ h => h) (Or.inl ⟨by rfl, ?_⟩) (by assumption) ?_
              rotate_left
              focus ((intro w hSw; (try dsimp only at hSw); go_simp) <;> (try with_reducible rfl))
              try simp only [Act.put, List.setIfInBounds_toArray, List.set_cons_zero, List.set_cons_succ]
              refine wpAnyH_take (i := 17) (oi := { dst := some 30, op := Op.binOp BinOp.sub 3 (Operand.tmp 29) (Operand.const (Value.int IntKind.i64 1)) 3, type := 3, pos := "ref.go:22", after := #[{ on := 16, ground := Ground.data }, { on := 9, ground := Ground.guard }], guard := some (9, true) }) (v := ?_) rfl (by kernel_rfl) (by kernel_rfl) (by kernel_rfl) (fun _ _ _ h => h) (Or.inl ⟨by rfl, ?_⟩) (by assumption) ?_
              rotate_left
              focus ((intro w hSw; (try dsimp only at hSw); go_simp) <;> (try with_reducible rfl))
              try simp only [Act.put, List.setIfInBounds_toArray, List.set_cons_zero, List.set_cons_succ]
              refine wpAnyH_take (i := 18) (oi := { dst := some 31, op := Op.indexAddr 26 (Operand.tmp 28) (Operand.tmp 30), type := 0, pos := "ref.go:22", after := #[{ on := 15, ground := Ground.data }, { on := 17, ground := Ground.data }, { on := 9, ground := Ground.guard }], guard := some (9, true) }) (v := ?_) rfl (by kernel_rfl) (by kernel_rfl) (by kernel_rfl) (fun _ _ _ h => h) (Or.inl ⟨by rfl, ?_⟩) (by assumption) ?_
              rotate_left
              focus ((intro w hSw; (try dsimp only at hSw); go_simp) <;> (try with_reducible rfl))
              try simp only [Act.put, List.setIfInBounds_toArray, List.set_cons_zero, List.set_cons_succ]
              refine wpAnyH_take (i := 19) (oi := { dst := some 32, op := Op.fieldAddr 30 (Operand.tmp 31) 0, type := 0, pos := "ref.go:22", after := #[{ on := 18, ground := Ground.data }, { on := 9, ground := Ground.guard }], guard := some (9, true) }) (v := ?_) rfl (by kernel_rfl) (by kernel_rfl) (by kernel_rfl) (fun _ _ _ h => h) (Or.inl ⟨by rfl, ?_⟩) (by assumption) ?_
              rotate_left
              focus ((intro w hSw; (try dsimp only at hSw); go_simp) <;> (try with_reducible rfl))
              try simp only [Act.put, List.setIfInBounds_toArray, List.set_cons_zero, List.set_cons_succ]
              refine wpAnyH_take (i := 20) (oi := { dst := some 33, op := Op.load 3 (Operand.tmp 32), type := 3, pos := "ref.go:22", after := #[{ on := 19, ground := Ground.data }, { on := 9, ground := Ground.guard }], guard := some (9, true) }) (v := ?_) rfl (by kernel_rfl) (by kernel_rfl) (by kernel_rfl) (fun _ _ _ h => h) (Or.inl ⟨by rfl, ?_⟩) (by assumption) ?_
              rotate_left
              focus ((intro w hSw; (try dsimp only at hSw); go_simp) <;> (try with_reducible rfl))
              try simp only [Act.put, List.setIfInBounds_toArray, List.set_cons_zero, List.set_cons_succ]
              refine wpAnyH_take (i := 21) (oi := { dst := some 34, op := Op.move (Operand.tmp 0), type := 26, pos := "ref.go:22", after := #[{ on := 9, ground := Ground.guard }], guard := some (9, true) }) (v := ?_) rfl (by kernel_rfl) (by kernel_rfl) (by kernel_rfl) (fun _ _ _ h => h) (Or.inl ⟨by rfl, ?_⟩) (by assumption) ?_
              rotate_left
              focus ((intro w hSw; (try dsimp only at hSw); go_simp) <;> (try with_reducible rfl))
              try simp only [Act.put, List.setIfInBounds_toArray, List.set_cons_zero, List.set_cons_succ]
              refine wpAnyH_take (i := 22) (oi := { dst := some 35, op := Op.move (Operand.tmp 3), type := 3, pos := "ref.go:22", after := #[{ on := 9, ground := Ground.guard }], guard := some (9, true) }) (v := ?_) rfl (by kernel_rfl) (by kernel_rfl) (by kernel_rfl) (fun _ _ _ h => h) (Or.inl ⟨by rfl, ?_⟩) (by assumption) ?_
              rotate_left
              focus ((intro w hSw; (try dsimp only at hSw); go_simp) <;> (try with_reducible rfl))
              try simp only [Act.put, List.setIfInBounds_toArray, List.set_cons_zero, List.set_cons_succ]
              refine wpAnyH_take (i := 23) (oi := { dst := some 36, op := Op.binOp BinOp.sub 3 (Operand.tmp 35) (Operand.const (Value.int IntKind.i64 1)) 3, type := 3, pos := "ref.go:22", after := #[{ on := 22, ground := Ground.data }, { on := 9, ground := Ground.guard }], guard := some (9, true) }) (v := ?_) rfl (by kernel_rfl) (by kernel_rfl) (by kernel_rfl) (fun _ _ _ h => h) (Or.inl ⟨by rfl, ?_⟩) (by assumption) ?_
              rotate_left
              focus ((intro w hSw; (try dsimp only at hSw); go_simp) <;> (try with_reducible rfl))
              try simp only [Act.put, List.setIfInBounds_toArray, List.set_cons_zero, List.set_cons_succ]
              refine wpAnyH_take (i := 24) (oi := { dst := some 37, op := Op.indexAddr 26 (Operand.tmp 34) (Operand.tmp 36), type := 0, pos := "ref.go:22", after := #[{ on := 21, ground := Ground.data }, { on := 23, ground := Ground.data }, { on := 9, ground := Ground.guard }], guard := some (9, true) }) (v := ?_) rfl (by kernel_rfl) (by kernel_rfl) (by kernel_rfl) (fun _ _ _ h => h) (Or.inl ⟨by rfl, ?_⟩) (by assumption) ?_
              rotate_left
              focus ((intro w hSw; (try dsimp only at hSw); go_simp) <;> (try with_reducible rfl))
              try simp only [Act.put, List.setIfInBounds_toArray, List.set_cons_zero, List.set_cons_succ]
              refine wpAnyH_take (i := 25) (oi := { dst := some 38, op := Op.fieldAddr 30 (Operand.tmp 37) 1, type := 0, pos := "ref.go:22", after := #[{ on := 24, ground := Ground.data }, { on := 9, ground := Ground.guard }], guard := some (9, true) }) (v := ?_) rfl (by kernel_rfl) (by kernel_rfl) (by kernel_rfl) (fun _ _ _ h => h) (Or.inl ⟨by rfl, ?_⟩) (by assumption) ?_
              rotate_left
              focus ((intro w hSw; (try dsimp only at hSw); go_simp) <;> (try with_reducible rfl))
              try simp only [Act.put, List.setIfInBounds_toArray, List.set_cons_zero, List.set_cons_succ]
              refine wpAnyH_take (i := 26) (oi := { dst := some 39, op := Op.load 3 (Operand.tmp 38), type := 3, pos := "ref.go:22", after := #[{ on := 25, ground := Ground.data }, { on := 9, ground := Ground.guard }], guard := some (9, true) }) (v := ?_) rfl (by kernel_rfl) (by kernel_rfl) (by kernel_rfl) (fun _ _ _ h => h) (Or.inl ⟨by rfl, ?_⟩) (by assumption) ?_
              rotate_left
              focus ((intro w hSw; (try dsimp only at hSw); go_simp) <;> (try with_reducible rfl))
              try simp only [Act.put, List.setIfInBounds_toArray, List.set_cons_zero, List.set_cons_succ]
              refine wpAnyH_take (i := 27) (oi := { dst := some 40, op := Op.binOp BinOp.add 3 (Operand.tmp 33) (Operand.tmp 39) 3, type := 3, pos := "ref.go:22", after := #[{ on := 20, ground := Ground.data }, { on := 26, ground := Ground.data }, { on := 9, ground := Ground.guard }], guard := some (9, true) }) (v := ?_) rfl (by kernel_rfl) (by kernel_rfl) (by kernel_rfl) (fun _ _ _ h => h) (Or.inl ⟨by rfl, ?_⟩) (by assumption) ?_
              rotate_left
              focus ((intro w hSw; (try dsimp only at hSw); go_simp) <;> (try with_reducible rfl))
              try simp only [Act.put, List.setIfInBounds_toArray, List.set_cons_zero, List.set_cons_succ]
              refine wpAnyH_take (i := 28) (oi := { dst := some 41, op := Op.binOp BinOp.lss 3 (Operand.tmp 27) (Operand.tmp 40) 3, type := 4, pos := "ref.go:22", after := #[{ on := 14, ground := Ground.data }, { on := 27, ground := Ground.data }, { on := 9, ground := Ground.guard }], guard := some (9, true) }) (v := ?_) rfl (by kernel_rfl) (by kernel_rfl) (by kernel_rfl) (fun _ _ _ h => h) (Or.inl ⟨by rfl, ?_⟩) (by assumption) ?_
              rotate_left
              focus ((intro w hSw; (try dsimp only at hSw); go_simp) <;> (try with_reducible rfl))
              try simp only [Act.put, List.setIfInBounds_toArray, List.set_cons_zero, List.set_cons_succ]
              refine wpAnyH_take (i := 29) (oi := { dst := some 42, op := Op.pick (Operand.tmp 22) (Operand.tmp 41) (Operand.const (Value.bool false)), type := 4, pos := "ref.go:22", after := #[{ on := 9, ground := Ground.data }, { on := 28, ground := Ground.data }, { on := 6, ground := Ground.guard }], guard := some (6, false) }) (v := ?_) rfl (by kernel_rfl) (by kernel_rfl) (by kernel_rfl) (fun _ _ _ h => h) (Or.inl ⟨by rfl, ?_⟩) (by assumption) ?_
              rotate_left
              focus ((intro w hSw; (try dsimp only at hSw); go_simp) <;> (try with_reducible rfl))
              try simp only [Act.put, List.setIfInBounds_toArray, List.set_cons_zero, List.set_cons_succ]
              refine wpAnyH_take (i := 30) (oi := { dst := some 43, op := Op.pick (Operand.tmp 19) (Operand.const (Value.bool true)) (Operand.tmp 42), type := 4, pos := "ref.go:22", after := #[{ on := 6, ground := Ground.data }, { on := 29, ground := Ground.data }], guard := none }) (v := ?_) rfl (by kernel_rfl) (by kernel_rfl) (by kernel_rfl) (fun _ _ _ h => h) (Or.inl ⟨by rfl, ?_⟩) (by assumption) ?_
              rotate_left
              focus ((intro w hSw; (try dsimp only at hSw); go_simp) <;> (try with_reducible rfl))
              try simp only [Act.put, List.setIfInBounds_toArray, List.set_cons_zero, List.set_cons_succ]
              refine wpAnyH_done (by kernel_rfl) ?_ _
              go_wp2_with fail
              go_roundw
              case rel => exact ⟨k + 1, by omega, by go_num, HB3, HT⟩
              case measure => simp [intOf]; omega
            · have hF := HFA.out (by rw [decide_eq_false hla]; rfl) hlt
              have hla2 : s < s' + c' := by omega
              clear HST HFA
              go_wp2_with fail
              refine wp_region_held_drew (S := fun w' => w'.cell? ⟨g, k * 5, none⟩ = some (.int .i64 s) ∧ w'.cell? ⟨g, k * 5 + 1, none⟩ = some (.int .i64 c) ∧ w'.cell? ⟨g, k * 5 + 2, none⟩ = some (.int .i64 f) ∧ w'.cell? ⟨g, k * 5 + 3, none⟩ = some (.int .i64 p) ∧ w'.cell? ⟨g, k * 5 + 4, none⟩ = some (.bool wb) ∧ w'.cell? ⟨g, j * 5, none⟩ = some (.int .i64 s') ∧ w'.cell? ⟨g, j * 5 + 1, none⟩ = some (.int .i64 c')) (by kernel_rfl) (by (try dsimp only); go_keep) (fun hHeld => ?_)
              refine wpAnyH_take (i := 0) (oi := { dst := some 13, op := Op.move (Operand.tmp 0), type := 26, pos := "ref.go:22", after := #[], guard := none }) (v := ?_) rfl (by kernel_rfl) (by kernel_rfl) (by kernel_rfl) (fun _ _ _ h => h) (Or.inl ⟨by rfl, ?_⟩) (by assumption) ?_
              rotate_left
              focus ((intro w hSw; (try dsimp only at hSw); go_simp) <;> (try with_reducible rfl))
              try simp only [Act.put, List.setIfInBounds_toArray, List.set_cons_zero, List.set_cons_succ]
              refine wpAnyH_take (i := 1) (oi := { dst := some 14, op := Op.move (Operand.tmp 3), type := 3, pos := "ref.go:22", after := #[], guard := none }) (v := ?_) rfl (by kernel_rfl) (by kernel_rfl) (by kernel_rfl) (fun _ _ _ h => h) (Or.inl ⟨by rfl, ?_⟩) (by assumption) ?_
              rotate_left
              focus ((intro w hSw; (try dsimp only at hSw); go_simp) <;> (try with_reducible rfl))
              try simp only [Act.put, List.setIfInBounds_toArray, List.set_cons_zero, List.set_cons_succ]
              refine wpAnyH_take (i := 2) (oi := { dst := some 15, op := Op.indexAddr 26 (Operand.tmp 13) (Operand.tmp 14), type := 0, pos := "ref.go:22", after := #[{ on := 0, ground := Ground.data }, { on := 1, ground := Ground.data }], guard := none }) (v := ?_) rfl (by kernel_rfl) (by kernel_rfl) (by kernel_rfl) (fun _ _ _ h => h) (Or.inl ⟨by rfl, ?_⟩) (by assumption) ?_
              rotate_left
              focus ((intro w hSw; (try dsimp only at hSw); go_simp) <;> (try with_reducible rfl))
              try simp only [Act.put, List.setIfInBounds_toArray, List.set_cons_zero, List.set_cons_succ]
              refine wpAnyH_take (i := 3) (oi := { dst := some 16, op := Op.load 30 (Operand.tmp 15), type := 30, pos := "ref.go:22", after := #[{ on := 2, ground := Ground.data }], guard := none }) (v := ?_) rfl (by kernel_rfl) (by kernel_rfl) (by kernel_rfl) (fun _ _ _ h => h) (Or.inl ⟨by rfl, ?_⟩) (by assumption) ?_
              rotate_left
              focus ((intro w hSw; (try dsimp only at hSw); go_simp) <;> (try with_reducible rfl))
              try simp only [Act.put, List.setIfInBounds_toArray, List.set_cons_zero, List.set_cons_succ]
              refine wpAnyH_ready (rs := [4]) (by kernel_rfl) (by simp) ?_
              refine AllReadyH.cons (o := { dst := some 17, op := Op.call { callee := Callee.value (Operand.func 31), args := #[Operand.tmp 16], argTypes := #[30] }, type := 4, pos := "ref.go:22", after := #[{ on := 3, ground := Ground.data }], guard := none }) rfl (fun K hK => ?_) AllReadyH.nil
              go_simp
              (first | (go_at_call 31; refine (HR.out _).mono ?_; rintro e w3 ⟨rfl, hb⟩; have j0 := (hb.cell (p := ⟨g, k * 5, none⟩) hg2).trans k0; have j1 := (hb.cell (p := ⟨g, k * 5 + 1, none⟩) hg2).trans k1; have j2 := (hb.cell (p := ⟨g, k * 5 + 2, none⟩) hg2).trans k2; have j3 := (hb.cell (p := ⟨g, k * 5 + 3, none⟩) hg2).trans k3; have j4 := (hb.cell (p := ⟨g, k * 5 + 4, none⟩) hg2).trans k4; have i0 := (hb.cell (p := ⟨g, j * 5, none⟩) hg2).trans p0; have i1 := (hb.cell (p := ⟨g, j * 5 + 1, none⟩) hg2).trans p1; have HB3 := Lib.hid (HBd.out.trans (hb.mono HBd.out.size))))
              go_wp2_with fail
              refine hK.out _ _ (by (try dsimp only); go_keep) (fun hHeld => ?_)
              clear hK K
              try simp only [Act.put, List.setIfInBounds_toArray, List.set_cons_zero, List.set_cons_succ]
              refine wpAnyH_take (i := 5) (oi := { dst := some 18, op := Op.unOp UnOp.not 4 (Operand.tmp 17), type := 4, pos := "ref.go:22", after := #[{ on := 4, ground := Ground.data }], guard := none }) (v := ?_) rfl (by kernel_rfl) (by kernel_rfl) (by kernel_rfl) (fun _ _ _ h => h) (Or.inl ⟨by rfl, ?_⟩) (by assumption) ?_
              rotate_left
              focus ((intro w hSw; (try dsimp only at hSw); go_simp) <;> (try with_reducible rfl))
              try simp only [Act.put, List.setIfInBounds_toArray, List.set_cons_zero, List.set_cons_succ]
              refine wpAnyH_take (i := 6) (oi := { dst := some 19, op := Op.move (Operand.tmp 18), type := 4, pos := "ref.go:22", after := #[{ on := 5, ground := Ground.data }, { on := 4, ground := Ground.chain }], guard := none }) (v := ?_) rfl (by kernel_rfl) (by kernel_rfl) (by kernel_rfl) (fun _ _ _ h => h) (Or.inl ⟨by rfl, ?_⟩) (by assumption) ?_
              rotate_left
              focus ((intro w hSw; (try dsimp only at hSw); go_simp) <;> (try with_reducible rfl))
              try simp only [Act.put, List.setIfInBounds_toArray, List.set_cons_zero, List.set_cons_succ]
              refine wpAnyH_take (i := 7) (oi := { dst := some 20, op := Op.move (Operand.tmp 3), type := 3, pos := "ref.go:22", after := #[{ on := 6, ground := Ground.guard }], guard := some (6, false) }) (v := ?_) rfl (by kernel_rfl) (by kernel_rfl) (by kernel_rfl) (fun _ _ _ h => h) (Or.inl ⟨by rfl, ?_⟩) (by assumption) ?_
              rotate_left
              focus ((intro w hSw; (try dsimp only at hSw); go_simp) <;> (try with_reducible rfl))
              try simp only [Act.put, List.setIfInBounds_toArray, List.set_cons_zero, List.set_cons_succ]
              refine wpAnyH_take (i := 8) (oi := { dst := some 21, op := Op.binOp BinOp.gtr 3 (Operand.tmp 20) (Operand.const (Value.int IntKind.i64 0)) 3, type := 4, pos := "ref.go:22", after := #[{ on := 7, ground := Ground.data }, { on := 6, ground := Ground.guard }], guard := some (6, false) }) (v := ?_) rfl (by kernel_rfl) (by kernel_rfl) (by kernel_rfl) (fun _ _ _ h => h) (Or.inl ⟨by rfl, ?_⟩) (by assumption) ?_
              rotate_left
              focus ((intro w hSw; (try dsimp only at hSw); go_simp) <;> (try with_reducible rfl))
              try simp only [Act.put, List.setIfInBounds_toArray, List.set_cons_zero, List.set_cons_succ]
              refine wpAnyH_take (i := 9) (oi := { dst := some 22, op := Op.move (Operand.tmp 21), type := 4, pos := "ref.go:22", after := #[{ on := 8, ground := Ground.data }, { on := 6, ground := Ground.chain }, { on := 6, ground := Ground.guard }], guard := some (6, false) }) (v := ?_) rfl (by kernel_rfl) (by kernel_rfl) (by kernel_rfl) (fun _ _ _ h => h) (Or.inl ⟨by rfl, ?_⟩) (by assumption) ?_
              rotate_left
              focus ((intro w hSw; (try dsimp only at hSw); go_simp) <;> (try with_reducible rfl))
              try simp only [Act.put, List.setIfInBounds_toArray, List.set_cons_zero, List.set_cons_succ]
              refine wpAnyH_take (i := 10) (oi := { dst := some 23, op := Op.move (Operand.tmp 0), type := 26, pos := "ref.go:22", after := #[{ on := 9, ground := Ground.guard }], guard := some (9, true) }) (v := ?_) rfl (by kernel_rfl) (by kernel_rfl) (by kernel_rfl) (fun _ _ _ h => h) (Or.inl ⟨by rfl, ?_⟩) (by assumption) ?_
              rotate_left
              focus ((intro w hSw; (try dsimp only at hSw); go_simp) <;> (try with_reducible rfl))
              try simp only [Act.put, List.setIfInBounds_toArray, List.set_cons_zero, List.set_cons_succ]
              refine wpAnyH_take (i := 11) (oi := { dst := some 24, op := Op.move (Operand.tmp 3), type := 3, pos := "ref.go:22", after := #[{ on := 9, ground := Ground.guard }], guard := some (9, true) }) (v := ?_) rfl (by kernel_rfl) (by kernel_rfl) (by kernel_rfl) (fun _ _ _ h => h) (Or.inl ⟨by rfl, ?_⟩) (by assumption) ?_
              rotate_left
              focus ((intro w hSw; (try dsimp only at hSw); go_simp) <;> (try with_reducible rfl))
              try simp only [Act.put, List.setIfInBounds_toArray, List.set_cons_zero, List.set_cons_succ]
              refine wpAnyH_take (i := 12) (oi := { dst := some 25, op := Op.indexAddr 26 (Operand.tmp 23) (Operand.tmp 24), type := 0, pos := "ref.go:22", after := #[{ on := 10, ground := Ground.data }, { on := 11, ground := Ground.data }, { on := 9, ground := Ground.guard }], guard := some (9, true) }) (v := ?_) rfl (by kernel_rfl) (by kernel_rfl) (by kernel_rfl) (fun _ _ _ h => h) (Or.inl ⟨by rfl, ?_⟩) (by assumption) ?_
              rotate_left
              focus ((intro w hSw; (try dsimp only at hSw); go_simp) <;> (try with_reducible rfl))
              try simp only [Act.put, List.setIfInBounds_toArray, List.set_cons_zero, List.set_cons_succ]
              refine wpAnyH_take (i := 13) (oi := { dst := some 26, op := Op.fieldAddr 30 (Operand.tmp 25) 0, type := 0, pos := "ref.go:22", after := #[{ on := 12, ground := Ground.data }, { on := 9, ground := Ground.guard }], guard := some (9, true) }) (v := ?_) rfl (by kernel_rfl) (by kernel_rfl) (by kernel_rfl) (fun _ _ _ h => h) (Or.inl ⟨by rfl, ?_⟩) (by assumption) ?_
              rotate_left
              focus ((intro w hSw; (try dsimp only at hSw); go_simp) <;> (try with_reducible rfl))
              try simp only [Act.put, List.setIfInBounds_toArray, List.set_cons_zero, List.set_cons_succ]
              refine wpAnyH_take (i := 14) (oi := { dst := some 27, op := Op.load 3 (Operand.tmp 26), type := 3, pos := "ref.go:22", after := #[{ on := 13, ground := Ground.data }, { on := 9, ground := Ground.guard }], guard := some (9, true) }) (v := ?_) rfl (by kernel_rfl) (by kernel_rfl) (by kernel_rfl) (fun _ _ _ h => h) (Or.inl ⟨by rfl, ?_⟩) (by assumption) ?_
              rotate_left
              focus ((intro w hSw; (try dsimp only at hSw); go_simp) <;> (try with_reducible rfl))
              try simp only [Act.put, List.setIfInBounds_toArray, List.set_cons_zero, List.set_cons_succ]
              refine wpAnyH_take (i := 15) (oi := { dst := some 28, op := Op.move (Operand.tmp 0), type := 26, pos := "ref.go:22", after := #[{ on := 9, ground := Ground.guard }], guard := some (9, true) }) (v := ?_) rfl (by kernel_rfl) (by kernel_rfl) (by kernel_rfl) (fun _ _ _ h => h) (Or.inl ⟨by rfl, ?_⟩) (by assumption) ?_
              rotate_left
              focus ((intro w hSw; (try dsimp only at hSw); go_simp) <;> (try with_reducible rfl))
              try simp only [Act.put, List.setIfInBounds_toArray, List.set_cons_zero, List.set_cons_succ]
              refine wpAnyH_take (i := 16) (oi := { dst := some 29, op := Op.move (Operand.tmp 3), type := 3, pos := "ref.go:22", after := #[{ on := 9, ground := Ground.guard }], guard := some (9, true) }) (v := ?_) rfl (by kernel_rfl) (by kernel_rfl) (by kernel_rfl) (fun _ _ _ h => h) (Or.inl ⟨by rfl, ?_⟩) (by assumption) ?_
              rotate_left
              focus ((intro w hSw; (try dsimp only at hSw); go_simp) <;> (try with_reducible rfl))
              try simp only [Act.put, List.setIfInBounds_toArray, List.set_cons_zero, List.set_cons_succ]
              refine wpAnyH_take (i := 17) (oi := { dst := some 30, op := Op.binOp BinOp.sub 3 (Operand.tmp 29) (Operand.const (Value.int IntKind.i64 1)) 3, type := 3, pos := "ref.go:22", after := #[{ on := 16, ground := Ground.data }, { on := 9, ground := Ground.guard }], guard := some (9, true) }) (v := ?_) rfl (by kernel_rfl) (by kernel_rfl) (by kernel_rfl) (fun _ _ _ h => h) (Or.inl ⟨by rfl, ?_⟩) (by assumption) ?_
              rotate_left
              focus ((intro w hSw; (try dsimp only at hSw); go_simp) <;> (try with_reducible rfl))
              try simp only [Act.put, List.setIfInBounds_toArray, List.set_cons_zero, List.set_cons_succ]
              refine wpAnyH_take (i := 18) (oi := { dst := some 31, op := Op.indexAddr 26 (Operand.tmp 28) (Operand.tmp 30), type := 0, pos := "ref.go:22", after := #[{ on := 15, ground := Ground.data }, { on := 17, ground := Ground.data }, { on := 9, ground := Ground.guard }], guard := some (9, true) }) (v := ?_) rfl (by kernel_rfl) (by kernel_rfl) (by kernel_rfl) (fun _ _ _ h => h) (Or.inl ⟨by rfl, ?_⟩) (by assumption) ?_
              rotate_left
              focus ((intro w hSw; (try dsimp only at hSw); go_simp) <;> (try with_reducible rfl))
              try simp only [Act.put, List.setIfInBounds_toArray, List.set_cons_zero, List.set_cons_succ]
              refine wpAnyH_take (i := 19) (oi := { dst := some 32, op := Op.fieldAddr 30 (Operand.tmp 31) 0, type := 0, pos := "ref.go:22", after := #[{ on := 18, ground := Ground.data }, { on := 9, ground := Ground.guard }], guard := some (9, true) }) (v := ?_) rfl (by kernel_rfl) (by kernel_rfl) (by kernel_rfl) (fun _ _ _ h => h) (Or.inl ⟨by rfl, ?_⟩) (by assumption) ?_
              rotate_left
              focus ((intro w hSw; (try dsimp only at hSw); go_simp) <;> (try with_reducible rfl))
              try simp only [Act.put, List.setIfInBounds_toArray, List.set_cons_zero, List.set_cons_succ]
              refine wpAnyH_take (i := 20) (oi := { dst := some 33, op := Op.load 3 (Operand.tmp 32), type := 3, pos := "ref.go:22", after := #[{ on := 19, ground := Ground.data }, { on := 9, ground := Ground.guard }], guard := some (9, true) }) (v := ?_) rfl (by kernel_rfl) (by kernel_rfl) (by kernel_rfl) (fun _ _ _ h => h) (Or.inl ⟨by rfl, ?_⟩) (by assumption) ?_
              rotate_left
              focus ((intro w hSw; (try dsimp only at hSw); go_simp) <;> (try with_reducible rfl))
              try simp only [Act.put, List.setIfInBounds_toArray, List.set_cons_zero, List.set_cons_succ]
              refine wpAnyH_take (i := 21) (oi := { dst := some 34, op := Op.move (Operand.tmp 0), type := 26, pos := "ref.go:22", after := #[{ on := 9, ground := Ground.guard }], guard := some (9, true) }) (v := ?_) rfl (by kernel_rfl) (by kernel_rfl) (by kernel_rfl) (fun _ _ _ h => h) (Or.inl ⟨by rfl, ?_⟩) (by assumption) ?_
              rotate_left
              focus ((intro w hSw; (try dsimp only at hSw); go_simp) <;> (try with_reducible rfl))
              try simp only [Act.put, List.setIfInBounds_toArray, List.set_cons_zero, List.set_cons_succ]
              refine wpAnyH_take (i := 22) (oi := { dst := some 35, op := Op.move (Operand.tmp 3), type := 3, pos := "ref.go:22", after := #[{ on := 9, ground := Ground.guard }], guard := some (9, true) }) (v := ?_) rfl (by kernel_rfl) (by kernel_rfl) (by kernel_rfl) (fun _ _ _ h => h) (Or.inl ⟨by rfl, ?_⟩) (by assumption) ?_
              rotate_left
              focus ((intro w hSw; (try dsimp only at hSw); go_simp) <;> (try with_reducible rfl))
              try simp only [Act.put, List.setIfInBounds_toArray, List.set_cons_zero, List.set_cons_succ]
              refine wpAnyH_take (i := 23) (oi := { dst := some 36, op := Op.binOp BinOp.sub 3 (Operand.tmp 35) (Operand.const (Value.int IntKind.i64 1)) 3, type := 3, pos := "ref.go:22", after := #[{ on := 22, ground := Ground.data }, { on := 9, ground := Ground.guard }], guard := some (9, true) }) (v := ?_) rfl (by kernel_rfl) (by kernel_rfl) (by kernel_rfl) (fun _ _ _ h => h) (Or.inl ⟨by rfl, ?_⟩) (by assumption) ?_
              rotate_left
              focus ((intro w hSw; (try dsimp only at hSw); go_simp) <;> (try with_reducible rfl))
              try simp only [Act.put, List.setIfInBounds_toArray, List.set_cons_zero, List.set_cons_succ]
              refine wpAnyH_take (i := 24) (oi := { dst := some 37, op := Op.indexAddr 26 (Operand.tmp 34) (Operand.tmp 36), type := 0, pos := "ref.go:22", after := #[{ on := 21, ground := Ground.data }, { on := 23, ground := Ground.data }, { on := 9, ground := Ground.guard }], guard := some (9, true) }) (v := ?_) rfl (by kernel_rfl) (by kernel_rfl) (by kernel_rfl) (fun _ _ _ h => h) (Or.inl ⟨by rfl, ?_⟩) (by assumption) ?_
              rotate_left
              focus ((intro w hSw; (try dsimp only at hSw); go_simp) <;> (try with_reducible rfl))
              try simp only [Act.put, List.setIfInBounds_toArray, List.set_cons_zero, List.set_cons_succ]
              refine wpAnyH_take (i := 25) (oi := { dst := some 38, op := Op.fieldAddr 30 (Operand.tmp 37) 1, type := 0, pos := "ref.go:22", after := #[{ on := 24, ground := Ground.data }, { on := 9, ground := Ground.guard }], guard := some (9, true) }) (v := ?_) rfl (by kernel_rfl) (by kernel_rfl) (by kernel_rfl) (fun _ _ _ h => h) (Or.inl ⟨by rfl, ?_⟩) (by assumption) ?_
              rotate_left
              focus ((intro w hSw; (try dsimp only at hSw); go_simp) <;> (try with_reducible rfl))
              try simp only [Act.put, List.setIfInBounds_toArray, List.set_cons_zero, List.set_cons_succ]
              refine wpAnyH_take (i := 26) (oi := { dst := some 39, op := Op.load 3 (Operand.tmp 38), type := 3, pos := "ref.go:22", after := #[{ on := 25, ground := Ground.data }, { on := 9, ground := Ground.guard }], guard := some (9, true) }) (v := ?_) rfl (by kernel_rfl) (by kernel_rfl) (by kernel_rfl) (fun _ _ _ h => h) (Or.inl ⟨by rfl, ?_⟩) (by assumption) ?_
              rotate_left
              focus ((intro w hSw; (try dsimp only at hSw); go_simp) <;> (try with_reducible rfl))
              try simp only [Act.put, List.setIfInBounds_toArray, List.set_cons_zero, List.set_cons_succ]
              refine wpAnyH_take (i := 27) (oi := { dst := some 40, op := Op.binOp BinOp.add 3 (Operand.tmp 33) (Operand.tmp 39) 3, type := 3, pos := "ref.go:22", after := #[{ on := 20, ground := Ground.data }, { on := 26, ground := Ground.data }, { on := 9, ground := Ground.guard }], guard := some (9, true) }) (v := ?_) rfl (by kernel_rfl) (by kernel_rfl) (by kernel_rfl) (fun _ _ _ h => h) (Or.inl ⟨by rfl, ?_⟩) (by assumption) ?_
              rotate_left
              focus ((intro w hSw; (try dsimp only at hSw); go_simp) <;> (try with_reducible rfl))
              try simp only [Act.put, List.setIfInBounds_toArray, List.set_cons_zero, List.set_cons_succ]
              refine wpAnyH_take (i := 28) (oi := { dst := some 41, op := Op.binOp BinOp.lss 3 (Operand.tmp 27) (Operand.tmp 40) 3, type := 4, pos := "ref.go:22", after := #[{ on := 14, ground := Ground.data }, { on := 27, ground := Ground.data }, { on := 9, ground := Ground.guard }], guard := some (9, true) }) (v := ?_) rfl (by kernel_rfl) (by kernel_rfl) (by kernel_rfl) (fun _ _ _ h => h) (Or.inl ⟨by rfl, ?_⟩) (by assumption) ?_
              rotate_left
              focus ((intro w hSw; (try dsimp only at hSw); go_simp) <;> (try with_reducible rfl))
              try simp only [Act.put, List.setIfInBounds_toArray, List.set_cons_zero, List.set_cons_succ]
              refine wpAnyH_take (i := 29) (oi := { dst := some 42, op := Op.pick (Operand.tmp 22) (Operand.tmp 41) (Operand.const (Value.bool false)), type := 4, pos := "ref.go:22", after := #[{ on := 9, ground := Ground.data }, { on := 28, ground := Ground.data }, { on := 6, ground := Ground.guard }], guard := some (6, false) }) (v := ?_) rfl (by kernel_rfl) (by kernel_rfl) (by kernel_rfl) (fun _ _ _ h => h) (Or.inl ⟨by rfl, ?_⟩) (by assumption) ?_
              rotate_left
              focus ((intro w hSw; (try dsimp only at hSw); go_simp) <;> (try with_reducible rfl))
              try simp only [Act.put, List.setIfInBounds_toArray, List.set_cons_zero, List.set_cons_succ]
              refine wpAnyH_take (i := 30) (oi := { dst := some 43, op := Op.pick (Operand.tmp 19) (Operand.const (Value.bool true)) (Operand.tmp 42), type := 4, pos := "ref.go:22", after := #[{ on := 6, ground := Ground.data }, { on := 29, ground := Ground.data }], guard := none }) (v := ?_) rfl (by kernel_rfl) (by kernel_rfl) (by kernel_rfl) (fun _ _ _ h => h) (Or.inl ⟨by rfl, ?_⟩) (by assumption) ?_
              rotate_left
              focus ((intro w hSw; (try dsimp only at hSw); go_simp) <;> (try with_reducible rfl))
              try simp only [Act.put, List.setIfInBounds_toArray, List.set_cons_zero, List.set_cons_succ]
              refine wpAnyH_done (by kernel_rfl) ?_ _
              go_wp2_with fail
              go_ret
              exact RetW.mk (by rw [HV.out, hF]; rfl) HB3.out
      · obtain rfl : k = l.length := by omega
        go_wp2_with fail
        go_ret
        exact RetW.mk (by rw [HV.out, HC.out]; rfl) HB.out
  · have h9 : (8 : Int) < (l.length : Int) := by omega
    have HV : Hid (checkV l = false) := by unfold Hid checkV; rw [decide_eq_false h8, Bool.and_false]
    go_enter Try.func21, Try.ntmps21
    go_wp2_with fail
    go_ret
    exact RetW.mk (by rw [HV.out]; rfl) (Below.refl _ _)
end Go.Proofs.Ytpnoilpdlnlebaa
