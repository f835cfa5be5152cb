/- Checking a list of entries. -/
import Derived.Test.YtodonnagmgbliaaCm
namespace Go.Proofs.Ytodonnagmgbliaa
open Go.ChangeShapes Go.WideShapes Go.ChangeAt Go.RowKit

/-- a row's facts at a world: for the walks -/
theorem ARow.at {B cap : Nat} {a : Option Addr} {l : List Ar} {w : World} (h : ARow B a cap l w) (hl : 0 < l.length) : ∃ g, a = some ⟨g, 0, none⟩ ∧ B ≤ g ∧ g < w.heap.size ∧ l.length ≤ cap ∧ cap ≤ maxLen ∧ ∀ j, j < l.length → Cel w g (j * 5) (l.getD j Ar.zero) := by
  rcases h with ⟨_, h2, _⟩ | h
  · rw [h2] at hl; exact absurd hl (Nat.lt_irrefl _)
  · exact h
def okAt (l : List Ar) (i : Nat) : Bool := rightB (l.getD i Ar.zero) && (decide (i = 0) || lessB (l.getD (i - 1) Ar.zero) (l.getD i Ar.zero))
def chkTo (l : List Ar) (k : Nat) : Bool := (List.range k).all (okAt l)
def checkV (l : List Ar) : Bool := chkTo l l.length
theorem chkTo_succ (l : List Ar) (k : Nat) : chkTo l (k + 1) = (chkTo l k && okAt l k) := by
  unfold chkTo; rw [List.range_succ, List.all_append]; simp
theorem chkTo_false {l : List Ar} {k n : Nat} (h : okAt l k = false) (hk : k < n) : chkTo l n = false := by
  unfold chkTo
  rw [List.all_eq_false]
  exact ⟨k, List.mem_range.2 hk, by rw [h]; simp⟩
theorem le_of_lessB {a b : Ar} (h : lessB a b = true) : cmpP a b < 0 := (cmpP_neg a b).2 h
theorem ge_of_lessB {a b : Ar} (h : lessB a b = false) : 0 ≤ cmpP a b := by
  have := (cmpP_neg a b).1
  rw [h] at this
  exact Int.not_lt.1 fun hh => by simpa using this hh

set_option maxHeartbeats 4000000 in
theorem check_any (B : Nat) (a : Option Addr) (l : List Ar) (cap : Nat) (w : World) (h : ARow B a cap l w) (hl : l.length ≤ 100) :
    Calls Try.prog 16 #[.slice a l.length cap] w (RetW (.bool (checkV l)) w) := by
  have HA : Hid (∀ j, j < l.length → ∃ g, a = some ⟨g, 0, none⟩ ∧ g < w.heap.size ∧ (l.length : Int) ≤ cap ∧ Cel w g (j * 5) (l.getD j Ar.zero)) := by
    intro j hj
    obtain ⟨g, h1, h2, h3, h4, h5, h6⟩ := h.at (by omega)
    exact ⟨g, h1, h3, by omega, h6 j hj⟩
  clear h
  go_enter Try.func16, Try.ntmps16
  go_wp2_with fail
  go_loopw [7] (fun v7 wr => ∃ k : Nat, k ≤ l.length ∧ v7 = .int .i64 k ∧ Hid (Below w.heap.size w wr) ∧ Hid (chkTo l k = true)) (fun v7 _ => 200 - (intOf v7).toNat)
  case atStart => exact ⟨0, Nat.zero_le _, rfl, Below.refl _ _, rfl⟩
  case round =>
    obtain ⟨k, hk, rfl, HB, HC⟩ := hrel
    by_cases hlt : k < l.length
    · have hlt' : (k : Int) < (l.length : Int) := by omega
      obtain ⟨g, rfl, hg, hcap, hcel⟩ := HA.out k hlt
      have hcw := hcel.eq (w' := wr) (fun i => HB.out.cell (p := ⟨g, i, none⟩) hg)
      have hprev : ∀ j, k = j + 1 → Cel wr g (j * 5) (l.getD j Ar.zero) := fun j hj => by
        obtain ⟨g', e1, e2, e3, e4⟩ := HA.out j (by omega)
        cases e1
        exact e4.eq (w' := wr) (fun i => HB.out.cell (p := ⟨g, i, none⟩) hg)
      have HP := Lib.hid hprev
      have HST : Hid (okAt l k = true → chkTo l (k + 1) = true) := fun h => by rw [chkTo_succ, HC.out, h]; rfl
      have HFA : Hid (okAt l k = false → checkV l = false) := fun h => chkTo_false h hlt
      have HOK : Hid (okAt l k = (rightB (l.getD k Ar.zero) && (decide (k = 0) || lessB (l.getD (k - 1) Ar.zero) (l.getD k Ar.zero)))) := rfl
      clear hcel hprev HA
      generalize okAt l k = okk at *
      generalize hee : l.getD k Ar.zero = e at *
      clear hee
      have HR := Lib.hid (fun w => right_any e w)
      have HM := Lib.hid (fun x w => compare_any x e w)
      obtain ⟨k0, k1, k2, k3, k4⟩ := hcw
      have hg2 : g < wr.heap.size := Nat.lt_of_lt_of_le hg HB.out.size
      unfold arVal at HR HM
      obtain ⟨s, c, f, p, q⟩ := e
      simp only at k0 k1 k2 k3 k4 HR HM
      go_wp2_with fail
      have hbl := Blk.new wr s c f p q
      have HB2 : Hid (Below w.heap.size w (wr.alloc (Obj.cells #[Value.int IntKind.i64 s, Value.int IntKind.i64 c, Value.int IntKind.i64 f, Value.bool p, Value.bool q] 30))) := HB.out.alloc HB.out.size _
      have hcl : ∀ o v, wr.cell? ⟨g, o, none⟩ = some v → (wr.alloc (Obj.cells #[Value.int IntKind.i64 s, Value.int IntKind.i64 c, Value.int IntKind.i64 f, Value.bool p, Value.bool q] 30)).cell? ⟨g, o, none⟩ = some v := fun o v h => by rw [← h]; exact World.cell?_alloc_lt _ _ _ hg2
      have hgA : g < (wr.alloc (Obj.cells #[Value.int IntKind.i64 s, Value.int IntKind.i64 c, Value.int IntKind.i64 f, Value.bool p, Value.bool q] 30)).heap.size := by simp; omega
      generalize wr.alloc (Obj.cells #[Value.int IntKind.i64 s, Value.int IntKind.i64 c, Value.int IntKind.i64 f, Value.bool p, Value.bool q] 30) = w2 at *
      generalize wr.heap.size = A at *
      have hA := hbl.hi
      have c0 := hbl.c0; have c1 := hbl.c1; have c2 := hbl.c2; have c3 := hbl.c3; have c4 := hbl.c4
      simp only at c0 c1 c2 c3 c4
      have HBd : Hid (Below w.heap.size w w2.drew) := HB2.out.drew
      have HCL := Lib.hid hcl
      clear hcl hbl k0 k1 k2 k3 k4
      generalize rightB ⟨s, c, f, p, q⟩ = rb at *
      cases rb with
      | false =>
        have hF := HFA.out (by rw [HOK.out]; rfl)
        clear HP HST HFA HOK HCL
        refine wp_region_held_drew (S := fun w' => w'.cell? ⟨A, 0, none⟩ = some (.int .i64 s) ∧ w'.cell? ⟨A, 1, none⟩ = some (.int .i64 c) ∧ w'.cell? ⟨A, 2, none⟩ = some (.int .i64 f) ∧ w'.cell? ⟨A, 3, none⟩ = some (.bool p) ∧ w'.cell? ⟨A, 4, none⟩ = some (.bool q)) (by kernel_rfl) (by (try dsimp only); go_keep) (fun hHeld => ?_)
        refine wpAnyH_take (i := 0) (oi := { dst := some 12, op := Op.load 30 (Operand.tmp 4), type := 30, pos := "pagetable.go:25", after := #[], guard := none }) (v := ?_) rfl (by kernel_rfl) (by kernel_rfl) (by kernel_rfl) (fun _ _ _ h => h) (Or.inl ⟨by rfl, ?_⟩) (by assumption) ?_
        rotate_left
        focus ((intro w hSw; (try dsimp only at hSw); go_simp) <;> (try with_reducible rfl))
        try simp only [Act.put, List.setIfInBounds_toArray, List.set_cons_zero, List.set_cons_succ]
        refine wpAnyH_ready (rs := [1]) (by kernel_rfl) (by simp) ?_
        refine AllReadyH.cons (o := { dst := some 13, op := Op.call { callee := Callee.value (Operand.func 32), args := #[Operand.tmp 12], argTypes := #[30] }, type := 4, pos := "pagetable.go:25", after := #[{ on := 0, ground := Ground.data }], guard := none }) rfl (fun K hK => ?_) AllReadyH.nil
        go_simp
        (first | (go_at_call 32; refine (HR.out _).mono ?_; rintro e w3 ⟨rfl, hb⟩; have j0 := (hb.cell (p := ⟨A, 0, none⟩) hA).trans c0; have j1 := (hb.cell (p := ⟨A, 1, none⟩) hA).trans c1; have j2 := (hb.cell (p := ⟨A, 2, none⟩) hA).trans c2; have j3 := (hb.cell (p := ⟨A, 3, none⟩) hA).trans c3; have j4 := (hb.cell (p := ⟨A, 4, none⟩) hA).trans c4; have HB3 := Lib.hid (HBd.out.trans (hb.mono HBd.out.size)); have hA3 := Nat.lt_of_lt_of_le hA hb.size; have hgA3 := Nat.lt_of_lt_of_le hgA hb.size))
        go_wp2_with fail
        refine hK.out _ _ (by (try dsimp only); go_keep) (fun hHeld => ?_)
        clear hK K
        try simp only [Act.put, List.setIfInBounds_toArray, List.set_cons_zero, List.set_cons_succ]
        refine wpAnyH_take (i := 2) (oi := { dst := some 14, op := Op.unOp UnOp.not 4 (Operand.tmp 13), type := 4, pos := "pagetable.go:25", after := #[{ on := 1, ground := Ground.data }], guard := none }) (v := ?_) rfl (by kernel_rfl) (by kernel_rfl) (by kernel_rfl) (fun _ _ _ h => h) (Or.inl ⟨by rfl, ?_⟩) (by assumption) ?_
        rotate_left
        focus ((intro w hSw; (try dsimp only at hSw); go_simp) <;> (try with_reducible rfl))
        try simp only [Act.put, List.setIfInBounds_toArray, List.set_cons_zero, List.set_cons_succ]
        refine wpAnyH_take (i := 3) (oi := { dst := some 15, op := Op.move (Operand.tmp 14), type := 4, pos := "pagetable.go:25", after := #[{ on := 2, ground := Ground.data }, { on := 1, ground := Ground.chain }], guard := none }) (v := ?_) rfl (by kernel_rfl) (by kernel_rfl) (by kernel_rfl) (fun _ _ _ h => h) (Or.inl ⟨by rfl, ?_⟩) (by assumption) ?_
        rotate_left
        focus ((intro w hSw; (try dsimp only at hSw); go_simp) <;> (try with_reducible rfl))
        try simp only [Act.put, List.setIfInBounds_toArray, List.set_cons_zero, List.set_cons_succ]
        refine wpAnyH_take (i := 4) (oi := { dst := some 16, op := Op.move (Operand.tmp 3), type := 3, pos := "pagetable.go:25", after := #[{ on := 3, ground := Ground.guard }], guard := some (3, false) }) (v := undef) rfl (by kernel_rfl) (by kernel_rfl) (by kernel_rfl) (fun _ _ _ h => h) (Or.inr ⟨by rfl, rfl⟩) (by assumption) ?_
        try simp only [Act.put, List.setIfInBounds_toArray, List.set_cons_zero, List.set_cons_succ]
        refine wpAnyH_take (i := 5) (oi := { dst := some 17, op := Op.binOp BinOp.gtr 3 (Operand.tmp 16) (Operand.const (Value.int IntKind.i64 0)) 3, type := 4, pos := "pagetable.go:25", after := #[{ on := 4, ground := Ground.data }, { on := 3, ground := Ground.guard }], guard := some (3, false) }) (v := undef) rfl (by kernel_rfl) (by kernel_rfl) (by kernel_rfl) (fun _ _ _ h => h) (Or.inr ⟨by rfl, rfl⟩) (by assumption) ?_
        try simp only [Act.put, List.setIfInBounds_toArray, List.set_cons_zero, List.set_cons_succ]
        refine wpAnyH_take (i := 6) (oi := { dst := some 18, op := Op.move (Operand.tmp 17), type := 4, pos := "pagetable.go:25", after := #[{ on := 5, ground := Ground.data }, { on := 3, ground := Ground.chain }, { on := 3, ground := Ground.guard }], guard := some (3, false) }) (v := undef) rfl (by kernel_rfl) (by kernel_rfl) (by kernel_rfl) (fun _ _ _ h => h) (Or.inr ⟨by rfl, rfl⟩) (by assumption) ?_
        try simp only [Act.put, List.setIfInBounds_toArray, List.set_cons_zero, List.set_cons_succ]
        refine wpAnyH_take (i := 7) (oi := { dst := some 19, op := Op.move (Operand.tmp 0), type := 26, pos := "pagetable.go:25", after := #[{ on := 6, ground := Ground.guard }], guard := some (6, true) }) (v := undef) rfl (by kernel_rfl) (by kernel_rfl) (by kernel_rfl) (fun _ _ _ h => h) (Or.inr ⟨by rfl, rfl⟩) (by assumption) ?_
        try simp only [Act.put, List.setIfInBounds_toArray, List.set_cons_zero, List.set_cons_succ]
        refine wpAnyH_take (i := 8) (oi := { dst := some 20, op := Op.move (Operand.tmp 3), type := 3, pos := "pagetable.go:25", after := #[{ on := 6, ground := Ground.guard }], guard := some (6, true) }) (v := undef) rfl (by kernel_rfl) (by kernel_rfl) (by kernel_rfl) (fun _ _ _ h => h) (Or.inr ⟨by rfl, rfl⟩) (by assumption) ?_
        try simp only [Act.put, List.setIfInBounds_toArray, List.set_cons_zero, List.set_cons_succ]
        refine wpAnyH_take (i := 9) (oi := { dst := some 21, op := Op.binOp BinOp.sub 3 (Operand.tmp 20) (Operand.const (Value.int IntKind.i64 1)) 3, type := 3, pos := "pagetable.go:25", after := #[{ on := 8, ground := Ground.data }, { on := 6, ground := Ground.guard }], guard := some (6, true) }) (v := undef) rfl (by kernel_rfl) (by kernel_rfl) (by kernel_rfl) (fun _ _ _ h => h) (Or.inr ⟨by rfl, rfl⟩) (by assumption) ?_
        try simp only [Act.put, List.setIfInBounds_toArray, List.set_cons_zero, List.set_cons_succ]
        refine wpAnyH_take (i := 10) (oi := { dst := some 22, op := Op.indexAddr 26 (Operand.tmp 19) (Operand.tmp 21), type := 0, pos := "pagetable.go:25", after := #[{ on := 7, ground := Ground.data }, { on := 9, ground := Ground.data }, { on := 6, ground := Ground.guard }], guard := some (6, true) }) (v := undef) rfl (by kernel_rfl) (by kernel_rfl) (by kernel_rfl) (fun _ _ _ h => h) (Or.inr ⟨by rfl, rfl⟩) (by assumption) ?_
        try simp only [Act.put, List.setIfInBounds_toArray, List.set_cons_zero, List.set_cons_succ]
        refine wpAnyH_take (i := 11) (oi := { dst := some 23, op := Op.load 30 (Operand.tmp 22), type := 30, pos := "pagetable.go:25", after := #[{ on := 10, ground := Ground.data }, { on := 6, ground := Ground.guard }], guard := some (6, true) }) (v := undef) rfl (by kernel_rfl) (by kernel_rfl) (by kernel_rfl) (fun _ _ _ h => h) (Or.inr ⟨by rfl, rfl⟩) (by assumption) ?_
        try simp only [Act.put, List.setIfInBounds_toArray, List.set_cons_zero, List.set_cons_succ]
        refine wpAnyH_take (i := 12) (oi := { dst := some 24, op := Op.load 30 (Operand.tmp 4), type := 30, pos := "pagetable.go:25", after := #[{ on := 6, ground := Ground.guard }], guard := some (6, true) }) (v := undef) rfl (by kernel_rfl) (by kernel_rfl) (by kernel_rfl) (fun _ _ _ h => h) (Or.inr ⟨by rfl, rfl⟩) (by assumption) ?_
        try simp only [Act.put, List.setIfInBounds_toArray, List.set_cons_zero, List.set_cons_succ]
        refine wpAnyH_take (i := 13) (oi := { dst := some 25, op := Op.call { callee := Callee.value (Operand.func 34), args := #[Operand.tmp 23, Operand.tmp 24], argTypes := #[30, 30] }, type := 3, pos := "pagetable.go:25", after := #[{ on := 11, ground := Ground.data }, { on := 12, ground := Ground.data }, { on := 6, ground := Ground.chain }, { on := 6, ground := Ground.guard }], guard := some (6, true) }) (v := undef) rfl (by kernel_rfl) (by kernel_rfl) (by kernel_rfl) (fun _ _ _ h => h) (Or.inr ⟨by rfl, rfl⟩) (by assumption) ?_
        try simp only [Act.put, List.setIfInBounds_toArray, List.set_cons_zero, List.set_cons_succ]
        refine wpAnyH_take (i := 14) (oi := { dst := some 26, op := Op.binOp BinOp.geq 3 (Operand.tmp 25) (Operand.const (Value.int IntKind.i64 0)) 3, type := 4, pos := "pagetable.go:25", after := #[{ on := 13, ground := Ground.data }, { on := 6, ground := Ground.guard }], guard := some (6, true) }) (v := undef) rfl (by kernel_rfl) (by kernel_rfl) (by kernel_rfl) (fun _ _ _ h => h) (Or.inr ⟨by rfl, rfl⟩) (by assumption) ?_
        try simp only [Act.put, List.setIfInBounds_toArray, List.set_cons_zero, List.set_cons_succ]
        refine wpAnyH_take (i := 15) (oi := { dst := some 27, op := Op.pick (Operand.tmp 18) (Operand.tmp 26) (Operand.const (Value.bool false)), type := 4, pos := "pagetable.go:25", after := #[{ on := 6, ground := Ground.data }, { on := 14, ground := Ground.data }, { on := 3, ground := Ground.guard }], guard := some (3, false) }) (v := undef) rfl (by kernel_rfl) (by kernel_rfl) (by kernel_rfl) (fun _ _ _ h => h) (Or.inr ⟨by rfl, rfl⟩) (by assumption) ?_
        try simp only [Act.put, List.setIfInBounds_toArray, List.set_cons_zero, List.set_cons_succ]
        refine wpAnyH_take (i := 16) (oi := { dst := some 28, op := Op.pick (Operand.tmp 15) (Operand.const (Value.bool true)) (Operand.tmp 27), type := 4, pos := "pagetable.go:25", after := #[{ on := 3, ground := Ground.data }, { on := 15, ground := Ground.data }], guard := none }) (v := ?_) rfl (by kernel_rfl) (by kernel_rfl) (by kernel_rfl) (fun _ _ _ h => h) (Or.inl ⟨by rfl, ?_⟩) (by assumption) ?_
        rotate_left
        focus ((intro w hSw; (try dsimp only at hSw); go_simp) <;> (try with_reducible rfl))
        try simp only [Act.put, List.setIfInBounds_toArray, List.set_cons_zero, List.set_cons_succ]
        refine wpAnyH_done (by kernel_rfl) ?_ _
        go_wp2_with fail
        go_ret
        exact RetW.mk (by rw [hF]; rfl) HB3.out
      | true =>
        rw [Bool.true_and] at HOK
        by_cases hkz : k = 0
        · have hT := HST.out (by rw [HOK.out, decide_eq_true hkz]; rfl)
          have HT := Lib.hid hT
          have hkz2 : (k : Int) ≤ 0 := by omega
          have hkz3 : ¬ 0 < k := by omega
          clear hT HP HST HFA HOK HCL hkz
          refine wp_region_held_drew (S := fun w' => w'.cell? ⟨A, 0, none⟩ = some (.int .i64 s) ∧ w'.cell? ⟨A, 1, none⟩ = some (.int .i64 c) ∧ w'.cell? ⟨A, 2, none⟩ = some (.int .i64 f) ∧ w'.cell? ⟨A, 3, none⟩ = some (.bool p) ∧ w'.cell? ⟨A, 4, none⟩ = some (.bool q)) (by kernel_rfl) (by (try dsimp only); go_keep) (fun hHeld => ?_)
          refine wpAnyH_take (i := 0) (oi := { dst := some 12, op := Op.load 30 (Operand.tmp 4), type := 30, pos := "pagetable.go:25", after := #[], guard := none }) (v := ?_) rfl (by kernel_rfl) (by kernel_rfl) (by kernel_rfl) (fun _ _ _ h => h) (Or.inl ⟨by rfl, ?_⟩) (by assumption) ?_
          rotate_left
          focus ((intro w hSw; (try dsimp only at hSw); go_simp) <;> (try with_reducible rfl))
          try simp only [Act.put, List.setIfInBounds_toArray, List.set_cons_zero, List.set_cons_succ]
          refine wpAnyH_ready (rs := [1]) (by kernel_rfl) (by simp) ?_
          refine AllReadyH.cons (o := { dst := some 13, op := Op.call { callee := Callee.value (Operand.func 32), args := #[Operand.tmp 12], argTypes := #[30] }, type := 4, pos := "pagetable.go:25", after := #[{ on := 0, ground := Ground.data }], guard := none }) rfl (fun K hK => ?_) AllReadyH.nil
          go_simp
          (first | (go_at_call 32; refine (HR.out _).mono ?_; rintro e w3 ⟨rfl, hb⟩; have j0 := (hb.cell (p := ⟨A, 0, none⟩) hA).trans c0; have j1 := (hb.cell (p := ⟨A, 1, none⟩) hA).trans c1; have j2 := (hb.cell (p := ⟨A, 2, none⟩) hA).trans c2; have j3 := (hb.cell (p := ⟨A, 3, none⟩) hA).trans c3; have j4 := (hb.cell (p := ⟨A, 4, none⟩) hA).trans c4; have HB3 := Lib.hid (HBd.out.trans (hb.mono HBd.out.size)); have hA3 := Nat.lt_of_lt_of_le hA hb.size; have hgA3 := Nat.lt_of_lt_of_le hgA hb.size))
          go_wp2_with fail
          refine hK.out _ _ (by (try dsimp only); go_keep) (fun hHeld => ?_)
          clear hK K
          try simp only [Act.put, List.setIfInBounds_toArray, List.set_cons_zero, List.set_cons_succ]
          refine wpAnyH_take (i := 2) (oi := { dst := some 14, op := Op.unOp UnOp.not 4 (Operand.tmp 13), type := 4, pos := "pagetable.go:25", after := #[{ on := 1, ground := Ground.data }], guard := none }) (v := ?_) rfl (by kernel_rfl) (by kernel_rfl) (by kernel_rfl) (fun _ _ _ h => h) (Or.inl ⟨by rfl, ?_⟩) (by assumption) ?_
          rotate_left
          focus ((intro w hSw; (try dsimp only at hSw); go_simp) <;> (try with_reducible rfl))
          try simp only [Act.put, List.setIfInBounds_toArray, List.set_cons_zero, List.set_cons_succ]
          refine wpAnyH_take (i := 3) (oi := { dst := some 15, op := Op.move (Operand.tmp 14), type := 4, pos := "pagetable.go:25", after := #[{ on := 2, ground := Ground.data }, { on := 1, ground := Ground.chain }], guard := none }) (v := ?_) rfl (by kernel_rfl) (by kernel_rfl) (by kernel_rfl) (fun _ _ _ h => h) (Or.inl ⟨by rfl, ?_⟩) (by assumption) ?_
          rotate_left
          focus ((intro w hSw; (try dsimp only at hSw); go_simp) <;> (try with_reducible rfl))
          try simp only [Act.put, List.setIfInBounds_toArray, List.set_cons_zero, List.set_cons_succ]
          refine wpAnyH_take (i := 4) (oi := { dst := some 16, op := Op.move (Operand.tmp 3), type := 3, pos := "pagetable.go:25", after := #[{ on := 3, ground := Ground.guard }], guard := some (3, false) }) (v := ?_) rfl (by kernel_rfl) (by kernel_rfl) (by kernel_rfl) (fun _ _ _ h => h) (Or.inl ⟨by rfl, ?_⟩) (by assumption) ?_
          rotate_left
          focus ((intro w hSw; (try dsimp only at hSw); go_simp) <;> (try with_reducible rfl))
          try simp only [Act.put, List.setIfInBounds_toArray, List.set_cons_zero, List.set_cons_succ]
          refine wpAnyH_take (i := 5) (oi := { dst := some 17, op := Op.binOp BinOp.gtr 3 (Operand.tmp 16) (Operand.const (Value.int IntKind.i64 0)) 3, type := 4, pos := "pagetable.go:25", after := #[{ on := 4, ground := Ground.data }, { on := 3, ground := Ground.guard }], guard := some (3, false) }) (v := ?_) rfl (by kernel_rfl) (by kernel_rfl) (by kernel_rfl) (fun _ _ _ h => h) (Or.inl ⟨by rfl, ?_⟩) (by assumption) ?_
          rotate_left
          focus ((intro w hSw; (try dsimp only at hSw); go_simp) <;> (try with_reducible rfl))
          try simp only [Act.put, List.setIfInBounds_toArray, List.set_cons_zero, List.set_cons_succ]
          refine wpAnyH_take (i := 6) (oi := { dst := some 18, op := Op.move (Operand.tmp 17), type := 4, pos := "pagetable.go:25", after := #[{ on := 5, ground := Ground.data }, { on := 3, ground := Ground.chain }, { on := 3, ground := Ground.guard }], guard := some (3, false) }) (v := ?_) rfl (by kernel_rfl) (by kernel_rfl) (by kernel_rfl) (fun _ _ _ h => h) (Or.inl ⟨by rfl, ?_⟩) (by assumption) ?_
          rotate_left
          focus ((intro w hSw; (try dsimp only at hSw); go_simp) <;> (try with_reducible rfl))
          try simp only [Act.put, List.setIfInBounds_toArray, List.set_cons_zero, List.set_cons_succ]
          refine wpAnyH_take (i := 7) (oi := { dst := some 19, op := Op.move (Operand.tmp 0), type := 26, pos := "pagetable.go:25", after := #[{ on := 6, ground := Ground.guard }], guard := some (6, true) }) (v := undef) rfl (by kernel_rfl) (by kernel_rfl) (by kernel_rfl) (fun _ _ _ h => h) (Or.inr ⟨by rfl, rfl⟩) (by assumption) ?_
          try simp only [Act.put, List.setIfInBounds_toArray, List.set_cons_zero, List.set_cons_succ]
          refine wpAnyH_take (i := 8) (oi := { dst := some 20, op := Op.move (Operand.tmp 3), type := 3, pos := "pagetable.go:25", after := #[{ on := 6, ground := Ground.guard }], guard := some (6, true) }) (v := undef) rfl (by kernel_rfl) (by kernel_rfl) (by kernel_rfl) (fun _ _ _ h => h) (Or.inr ⟨by rfl, rfl⟩) (by assumption) ?_
          try simp only [Act.put, List.setIfInBounds_toArray, List.set_cons_zero, List.set_cons_succ]
          refine wpAnyH_take (i := 9) (oi := { dst := some 21, op := Op.binOp BinOp.sub 3 (Operand.tmp 20) (Operand.const (Value.int IntKind.i64 1)) 3, type := 3, pos := "pagetable.go:25", after := #[{ on := 8, ground := Ground.data }, { on := 6, ground := Ground.guard }], guard := some (6, true) }) (v := undef) rfl (by kernel_rfl) (by kernel_rfl) (by kernel_rfl) (fun _ _ _ h => h) (Or.inr ⟨by rfl, rfl⟩) (by assumption) ?_
          try simp only [Act.put, List.setIfInBounds_toArray, List.set_cons_zero, List.set_cons_succ]
          refine wpAnyH_take (i := 10) (oi := { dst := some 22, op := Op.indexAddr 26 (Operand.tmp 19) (Operand.tmp 21), type := 0, pos := "pagetable.go:25", after := #[{ on := 7, ground := Ground.data }, { on := 9, ground := Ground.data }, { on := 6, ground := Ground.guard }], guard := some (6, true) }) (v := undef) rfl (by kernel_rfl) (by kernel_rfl) (by kernel_rfl) (fun _ _ _ h => h) (Or.inr ⟨by rfl, rfl⟩) (by assumption) ?_
          try simp only [Act.put, List.setIfInBounds_toArray, List.set_cons_zero, List.set_cons_succ]
          refine wpAnyH_take (i := 11) (oi := { dst := some 23, op := Op.load 30 (Operand.tmp 22), type := 30, pos := "pagetable.go:25", after := #[{ on := 10, ground := Ground.data }, { on := 6, ground := Ground.guard }], guard := some (6, true) }) (v := undef) rfl (by kernel_rfl) (by kernel_rfl) (by kernel_rfl) (fun _ _ _ h => h) (Or.inr ⟨by rfl, rfl⟩) (by assumption) ?_
          try simp only [Act.put, List.setIfInBounds_toArray, List.set_cons_zero, List.set_cons_succ]
          refine wpAnyH_take (i := 12) (oi := { dst := some 24, op := Op.load 30 (Operand.tmp 4), type := 30, pos := "pagetable.go:25", after := #[{ on := 6, ground := Ground.guard }], guard := some (6, true) }) (v := undef) rfl (by kernel_rfl) (by kernel_rfl) (by kernel_rfl) (fun _ _ _ h => h) (Or.inr ⟨by rfl, rfl⟩) (by assumption) ?_
          try simp only [Act.put, List.setIfInBounds_toArray, List.set_cons_zero, List.set_cons_succ]
          refine wpAnyH_take (i := 13) (oi := { dst := some 25, op := Op.call { callee := Callee.value (Operand.func 34), args := #[Operand.tmp 23, Operand.tmp 24], argTypes := #[30, 30] }, type := 3, pos := "pagetable.go:25", after := #[{ on := 11, ground := Ground.data }, { on := 12, ground := Ground.data }, { on := 6, ground := Ground.chain }, { on := 6, ground := Ground.guard }], guard := some (6, true) }) (v := undef) rfl (by kernel_rfl) (by kernel_rfl) (by kernel_rfl) (fun _ _ _ h => h) (Or.inr ⟨by rfl, rfl⟩) (by assumption) ?_
          try simp only [Act.put, List.setIfInBounds_toArray, List.set_cons_zero, List.set_cons_succ]
          refine wpAnyH_take (i := 14) (oi := { dst := some 26, op := Op.binOp BinOp.geq 3 (Operand.tmp 25) (Operand.const (Value.int IntKind.i64 0)) 3, type := 4, pos := "pagetable.go:25", after := #[{ on := 13, ground := Ground.data }, { on := 6, ground := Ground.guard }], guard := some (6, true) }) (v := undef) rfl (by kernel_rfl) (by kernel_rfl) (by kernel_rfl) (fun _ _ _ h => h) (Or.inr ⟨by rfl, rfl⟩) (by assumption) ?_
          try simp only [Act.put, List.setIfInBounds_toArray, List.set_cons_zero, List.set_cons_succ]
          refine wpAnyH_take (i := 15) (oi := { dst := some 27, op := Op.pick (Operand.tmp 18) (Operand.tmp 26) (Operand.const (Value.bool false)), type := 4, pos := "pagetable.go:25", after := #[{ on := 6, ground := Ground.data }, { on := 14, ground := Ground.data }, { on := 3, ground := Ground.guard }], guard := some (3, false) }) (v := ?_) rfl (by kernel_rfl) (by kernel_rfl) (by kernel_rfl) (fun _ _ _ h => h) (Or.inl ⟨by rfl, ?_⟩) (by assumption) ?_
          rotate_left
          focus ((intro w hSw; (try dsimp only at hSw); go_simp) <;> (try with_reducible rfl))
          try simp only [Act.put, List.setIfInBounds_toArray, List.set_cons_zero, List.set_cons_succ]
          refine wpAnyH_take (i := 16) (oi := { dst := some 28, op := Op.pick (Operand.tmp 15) (Operand.const (Value.bool true)) (Operand.tmp 27), type := 4, pos := "pagetable.go:25", after := #[{ on := 3, ground := Ground.data }, { on := 15, ground := Ground.data }], guard := none }) (v := ?_) rfl (by kernel_rfl) (by kernel_rfl) (by kernel_rfl) (fun _ _ _ h => h) (Or.inl ⟨by rfl, ?_⟩) (by assumption) ?_
          rotate_left
          focus ((intro w hSw; (try dsimp only at hSw); go_simp) <;> (try with_reducible rfl))
          try simp only [Act.put, List.setIfInBounds_toArray, List.set_cons_zero, List.set_cons_succ]
          refine wpAnyH_done (by kernel_rfl) ?_ _
          go_wp2_with fail
          go_roundw
          case rel => exact ⟨k + 1, by omega, by go_num, HB3, HT⟩
          case measure => simp [intOf]; omega
        · obtain ⟨j, hj⟩ : ∃ j, k = j + 1 := ⟨k - 1, by omega⟩
          have hc2 := HP.out j hj
          rw [show k - 1 = j from by omega, decide_eq_false hkz, Bool.false_or] at HOK
          generalize l.getD j Ar.zero = e' at *
          obtain ⟨s', c', f', p', q'⟩ := e'
          have d0 := HCL.out _ _ hc2.c0; have d1 := HCL.out _ _ hc2.c1; have d2 := HCL.out _ _ hc2.c2; have d3 := HCL.out _ _ hc2.c3; have d4 := HCL.out _ _ hc2.c4
          simp only at d0 d1 d2 d3 d4
          have hm := fun w => HM.out ⟨s', c', f', p', q'⟩ w
          have hlo := cmpP_lo ⟨s', c', f', p', q'⟩ ⟨s, c, f, p, q⟩
          have hle := @le_of_lessB ⟨s', c', f', p', q'⟩ ⟨s, c, f, p, q⟩
          have hge := @ge_of_lessB ⟨s', c', f', p', q'⟩ ⟨s, c, f, p, q⟩
          simp only at hm
          generalize cmpP ⟨s', c', f', p', q'⟩ ⟨s, c, f, p, q⟩ = cm at *
          generalize lessB ⟨s', c', f', p', q'⟩ ⟨s, c, f, p, q⟩ = lb at *
          have HM2 := Lib.hid hm
          have hj0 : (0 : Int) < (k : Int) := by omega
          have hj0n : 0 < k := by omega
          have hj1 : (j : Int) < (l.length : Int) := by omega
          have hj2 : IntKind.i64.wrap (j : Int) = (j : Int) := IntWalk.i64_in _ (by omega)
          have hj3 : (k : Int) - 1 = (j : Int) := by omega
          clear HM hc2 hm HP hj hkz HCL
          cases lb with
          | true =>
            have hcm := hle rfl
            have hcm2 : ¬ 0 ≤ cm := by omega
            have hT := HST.out HOK.out
            have HT := Lib.hid hT
            clear hT HST HFA HOK hle hge
            refine wp_region_held_drew (S := fun w' => w'.cell? ⟨A, 0, none⟩ = some (.int .i64 s) ∧ w'.cell? ⟨A, 1, none⟩ = some (.int .i64 c) ∧ w'.cell? ⟨A, 2, none⟩ = some (.int .i64 f) ∧ w'.cell? ⟨A, 3, none⟩ = some (.bool p) ∧ w'.cell? ⟨A, 4, none⟩ = some (.bool q) ∧ w'.cell? ⟨g, j * 5, none⟩ = some (.int .i64 s') ∧ w'.cell? ⟨g, j * 5 + 1, none⟩ = some (.int .i64 c') ∧ w'.cell? ⟨g, j * 5 + 2, none⟩ = some (.int .i64 f') ∧ w'.cell? ⟨g, j * 5 + 3, none⟩ = some (.bool p') ∧ w'.cell? ⟨g, j * 5 + 4, none⟩ = some (.bool q')) (by kernel_rfl) (by (try dsimp only); go_keep) (fun hHeld => ?_)
            refine wpAnyH_take (i := 0) (oi := { dst := some 12, op := Op.load 30 (Operand.tmp 4), type := 30, pos := "pagetable.go:25", after := #[], guard := none }) (v := ?_) rfl (by kernel_rfl) (by kernel_rfl) (by kernel_rfl) (fun _ _ _ h => h) (Or.inl ⟨by rfl, ?_⟩) (by assumption) ?_
            rotate_left
            focus ((intro w hSw; (try dsimp only at hSw); go_simp) <;> (try with_reducible rfl))
            try simp only [Act.put, List.setIfInBounds_toArray, List.set_cons_zero, List.set_cons_succ]
            refine wpAnyH_ready (rs := [1]) (by kernel_rfl) (by simp) ?_
            refine AllReadyH.cons (o := { dst := some 13, op := Op.call { callee := Callee.value (Operand.func 32), args := #[Operand.tmp 12], argTypes := #[30] }, type := 4, pos := "pagetable.go:25", after := #[{ on := 0, ground := Ground.data }], guard := none }) rfl (fun K hK => ?_) AllReadyH.nil
            go_simp
            (first | (go_at_call 32; refine (HR.out _).mono ?_; rintro e w3 ⟨rfl, hb⟩; have j0 := (hb.cell (p := ⟨A, 0, none⟩) hA).trans c0; have j1 := (hb.cell (p := ⟨A, 1, none⟩) hA).trans c1; have j2 := (hb.cell (p := ⟨A, 2, none⟩) hA).trans c2; have j3 := (hb.cell (p := ⟨A, 3, none⟩) hA).trans c3; have j4 := (hb.cell (p := ⟨A, 4, none⟩) hA).trans c4; have i0 := (hb.cell (p := ⟨g, j * 5, none⟩) hgA).trans d0; have i1 := (hb.cell (p := ⟨g, j * 5 + 1, none⟩) hgA).trans d1; have i2 := (hb.cell (p := ⟨g, j * 5 + 2, none⟩) hgA).trans d2; have i3 := (hb.cell (p := ⟨g, j * 5 + 3, none⟩) hgA).trans d3; have i4 := (hb.cell (p := ⟨g, j * 5 + 4, none⟩) hgA).trans d4; have HB3 := Lib.hid (HBd.out.trans (hb.mono HBd.out.size)); have hA3 := Nat.lt_of_lt_of_le hA hb.size; have hgA3 := Nat.lt_of_lt_of_le hgA hb.size) | (go_at_call 34; refine (HM2.out _).mono ?_; rintro e w4 ⟨rfl, hb2⟩; have m0 := (hb2.cell (p := ⟨A, 0, none⟩) hA3).trans j0; have m1 := (hb2.cell (p := ⟨A, 1, none⟩) hA3).trans j1; have m2 := (hb2.cell (p := ⟨A, 2, none⟩) hA3).trans j2; have m3 := (hb2.cell (p := ⟨A, 3, none⟩) hA3).trans j3; have m4 := (hb2.cell (p := ⟨A, 4, none⟩) hA3).trans j4; have n0 := (hb2.cell (p := ⟨g, j * 5, none⟩) hgA3).trans i0; have n1 := (hb2.cell (p := ⟨g, j * 5 + 1, none⟩) hgA3).trans i1; have n2 := (hb2.cell (p := ⟨g, j * 5 + 2, none⟩) hgA3).trans i2; have n3 := (hb2.cell (p := ⟨g, j * 5 + 3, none⟩) hgA3).trans i3; have n4 := (hb2.cell (p := ⟨g, j * 5 + 4, none⟩) hgA3).trans i4; have HB4 := Lib.hid (HB3.out.trans (hb2.mono HB3.out.size))))
            go_wp2_with fail
            refine hK.out _ _ (by (try dsimp only); go_keep) (fun hHeld => ?_)
            clear hK K
            try simp only [Act.put, List.setIfInBounds_toArray, List.set_cons_zero, List.set_cons_succ]
            refine wpAnyH_take (i := 2) (oi := { dst := some 14, op := Op.unOp UnOp.not 4 (Operand.tmp 13), type := 4, pos := "pagetable.go:25", after := #[{ on := 1, ground := Ground.data }], guard := none }) (v := ?_) rfl (by kernel_rfl) (by kernel_rfl) (by kernel_rfl) (fun _ _ _ h => h) (Or.inl ⟨by rfl, ?_⟩) (by assumption) ?_
            rotate_left
            focus ((intro w hSw; (try dsimp only at hSw); go_simp) <;> (try with_reducible rfl))
            try simp only [Act.put, List.setIfInBounds_toArray, List.set_cons_zero, List.set_cons_succ]
            refine wpAnyH_take (i := 3) (oi := { dst := some 15, op := Op.move (Operand.tmp 14), type := 4, pos := "pagetable.go:25", after := #[{ on := 2, ground := Ground.data }, { on := 1, ground := Ground.chain }], guard := none }) (v := ?_) rfl (by kernel_rfl) (by kernel_rfl) (by kernel_rfl) (fun _ _ _ h => h) (Or.inl ⟨by rfl, ?_⟩) (by assumption) ?_
            rotate_left
            focus ((intro w hSw; (try dsimp only at hSw); go_simp) <;> (try with_reducible rfl))
            try simp only [Act.put, List.setIfInBounds_toArray, List.set_cons_zero, List.set_cons_succ]
            refine wpAnyH_take (i := 4) (oi := { dst := some 16, op := Op.move (Operand.tmp 3), type := 3, pos := "pagetable.go:25", after := #[{ on := 3, ground := Ground.guard }], guard := some (3, false) }) (v := ?_) rfl (by kernel_rfl) (by kernel_rfl) (by kernel_rfl) (fun _ _ _ h => h) (Or.inl ⟨by rfl, ?_⟩) (by assumption) ?_
            rotate_left
            focus ((intro w hSw; (try dsimp only at hSw); go_simp) <;> (try with_reducible rfl))
            try simp only [Act.put, List.setIfInBounds_toArray, List.set_cons_zero, List.set_cons_succ]
            refine wpAnyH_take (i := 5) (oi := { dst := some 17, op := Op.binOp BinOp.gtr 3 (Operand.tmp 16) (Operand.const (Value.int IntKind.i64 0)) 3, type := 4, pos := "pagetable.go:25", after := #[{ on := 4, ground := Ground.data }, { on := 3, ground := Ground.guard }], guard := some (3, false) }) (v := ?_) rfl (by kernel_rfl) (by kernel_rfl) (by kernel_rfl) (fun _ _ _ h => h) (Or.inl ⟨by rfl, ?_⟩) (by assumption) ?_
            rotate_left
            focus ((intro w hSw; (try dsimp only at hSw); go_simp) <;> (try with_reducible rfl))
            try simp only [Act.put, List.setIfInBounds_toArray, List.set_cons_zero, List.set_cons_succ]
            refine wpAnyH_take (i := 6) (oi := { dst := some 18, op := Op.move (Operand.tmp 17), type := 4, pos := "pagetable.go:25", after := #[{ on := 5, ground := Ground.data }, { on := 3, ground := Ground.chain }, { on := 3, ground := Ground.guard }], guard := some (3, false) }) (v := ?_) rfl (by kernel_rfl) (by kernel_rfl) (by kernel_rfl) (fun _ _ _ h => h) (Or.inl ⟨by rfl, ?_⟩) (by assumption) ?_
            rotate_left
            focus ((intro w hSw; (try dsimp only at hSw); go_simp) <;> (try with_reducible rfl))
            try simp only [Act.put, List.setIfInBounds_toArray, List.set_cons_zero, List.set_cons_succ]
            refine wpAnyH_take (i := 7) (oi := { dst := some 19, op := Op.move (Operand.tmp 0), type := 26, pos := "pagetable.go:25", after := #[{ on := 6, ground := Ground.guard }], guard := some (6, true) }) (v := ?_) rfl (by kernel_rfl) (by kernel_rfl) (by kernel_rfl) (fun _ _ _ h => h) (Or.inl ⟨by rfl, ?_⟩) (by assumption) ?_
            rotate_left
            focus ((intro w hSw; (try dsimp only at hSw); go_simp) <;> (try with_reducible rfl))
            try simp only [Act.put, List.setIfInBounds_toArray, List.set_cons_zero, List.set_cons_succ]
            refine wpAnyH_take (i := 8) (oi := { dst := some 20, op := Op.move (Operand.tmp 3), type := 3, pos := "pagetable.go:25", after := #[{ on := 6, ground := Ground.guard }], guard := some (6, true) }) (v := ?_) rfl (by kernel_rfl) (by kernel_rfl) (by kernel_rfl) (fun _ _ _ h => h) (Or.inl ⟨by rfl, ?_⟩) (by assumption) ?_
            rotate_left
            focus ((intro w hSw; (try dsimp only at hSw); go_simp) <;> (try with_reducible rfl))
            try simp only [Act.put, List.setIfInBounds_toArray, List.set_cons_zero, List.set_cons_succ]
            refine wpAnyH_take (i := 9) (oi := { dst := some 21, op := Op.binOp BinOp.sub 3 (Operand.tmp 20) (Operand.const (Value.int IntKind.i64 1)) 3, type := 3, pos := "pagetable.go:25", after := #[{ on := 8, ground := Ground.data }, { on := 6, ground := Ground.guard }], guard := some (6, true) }) (v := ?_) rfl (by kernel_rfl) (by kernel_rfl) (by kernel_rfl) (fun _ _ _ h => h) (Or.inl ⟨by rfl, ?_⟩) (by assumption) ?_
            rotate_left
            focus ((intro w hSw; (try dsimp only at hSw); go_simp) <;> (try with_reducible rfl))
            try simp only [Act.put, List.setIfInBounds_toArray, List.set_cons_zero, List.set_cons_succ]
            refine wpAnyH_take (i := 10) (oi := { dst := some 22, op := Op.indexAddr 26 (Operand.tmp 19) (Operand.tmp 21), type := 0, pos := "pagetable.go:25", after := #[{ on := 7, ground := Ground.data }, { on := 9, ground := Ground.data }, { on := 6, ground := Ground.guard }], guard := some (6, true) }) (v := ?_) rfl (by kernel_rfl) (by kernel_rfl) (by kernel_rfl) (fun _ _ _ h => h) (Or.inl ⟨by rfl, ?_⟩) (by assumption) ?_
            rotate_left
            focus ((intro w hSw; (try dsimp only at hSw); go_simp) <;> (try with_reducible rfl))
            try simp only [Act.put, List.setIfInBounds_toArray, List.set_cons_zero, List.set_cons_succ]
            refine wpAnyH_take (i := 11) (oi := { dst := some 23, op := Op.load 30 (Operand.tmp 22), type := 30, pos := "pagetable.go:25", after := #[{ on := 10, ground := Ground.data }, { on := 6, ground := Ground.guard }], guard := some (6, true) }) (v := ?_) rfl (by kernel_rfl) (by kernel_rfl) (by kernel_rfl) (fun _ _ _ h => h) (Or.inl ⟨by rfl, ?_⟩) (by assumption) ?_
            rotate_left
            focus ((intro w hSw; (try dsimp only at hSw); go_simp) <;> (try with_reducible rfl))
            try simp only [Act.put, List.setIfInBounds_toArray, List.set_cons_zero, List.set_cons_succ]
            refine wpAnyH_take (i := 12) (oi := { dst := some 24, op := Op.load 30 (Operand.tmp 4), type := 30, pos := "pagetable.go:25", after := #[{ on := 6, ground := Ground.guard }], guard := some (6, true) }) (v := ?_) rfl (by kernel_rfl) (by kernel_rfl) (by kernel_rfl) (fun _ _ _ h => h) (Or.inl ⟨by rfl, ?_⟩) (by assumption) ?_
            rotate_left
            focus ((intro w hSw; (try dsimp only at hSw); go_simp) <;> (try with_reducible rfl))
            try simp only [Act.put, List.setIfInBounds_toArray, List.set_cons_zero, List.set_cons_succ]
            refine wpAnyH_ready (rs := [13]) (by kernel_rfl) (by simp) ?_
            refine AllReadyH.cons (o := { dst := some 25, op := Op.call { callee := Callee.value (Operand.func 34), args := #[Operand.tmp 23, Operand.tmp 24], argTypes := #[30, 30] }, type := 3, pos := "pagetable.go:25", after := #[{ on := 11, ground := Ground.data }, { on := 12, ground := Ground.data }, { on := 6, ground := Ground.chain }, { on := 6, ground := Ground.guard }], guard := some (6, true) }) rfl (fun K hK => ?_) AllReadyH.nil
            go_simp
            (first | (go_at_call 32; refine (HR.out _).mono ?_; rintro e w3 ⟨rfl, hb⟩; have j0 := (hb.cell (p := ⟨A, 0, none⟩) hA).trans c0; have j1 := (hb.cell (p := ⟨A, 1, none⟩) hA).trans c1; have j2 := (hb.cell (p := ⟨A, 2, none⟩) hA).trans c2; have j3 := (hb.cell (p := ⟨A, 3, none⟩) hA).trans c3; have j4 := (hb.cell (p := ⟨A, 4, none⟩) hA).trans c4; have i0 := (hb.cell (p := ⟨g, j * 5, none⟩) hgA).trans d0; have i1 := (hb.cell (p := ⟨g, j * 5 + 1, none⟩) hgA).trans d1; have i2 := (hb.cell (p := ⟨g, j * 5 + 2, none⟩) hgA).trans d2; have i3 := (hb.cell (p := ⟨g, j * 5 + 3, none⟩) hgA).trans d3; have i4 := (hb.cell (p := ⟨g, j * 5 + 4, none⟩) hgA).trans d4; have HB3 := Lib.hid (HBd.out.trans (hb.mono HBd.out.size)); have hA3 := Nat.lt_of_lt_of_le hA hb.size; have hgA3 := Nat.lt_of_lt_of_le hgA hb.size) | (go_at_call 34; refine (HM2.out _).mono ?_; rintro e w4 ⟨rfl, hb2⟩; have m0 := (hb2.cell (p := ⟨A, 0, none⟩) hA3).trans j0; have m1 := (hb2.cell (p := ⟨A, 1, none⟩) hA3).trans j1; have m2 := (hb2.cell (p := ⟨A, 2, none⟩) hA3).trans j2; have m3 := (hb2.cell (p := ⟨A, 3, none⟩) hA3).trans j3; have m4 := (hb2.cell (p := ⟨A, 4, none⟩) hA3).trans j4; have n0 := (hb2.cell (p := ⟨g, j * 5, none⟩) hgA3).trans i0; have n1 := (hb2.cell (p := ⟨g, j * 5 + 1, none⟩) hgA3).trans i1; have n2 := (hb2.cell (p := ⟨g, j * 5 + 2, none⟩) hgA3).trans i2; have n3 := (hb2.cell (p := ⟨g, j * 5 + 3, none⟩) hgA3).trans i3; have n4 := (hb2.cell (p := ⟨g, j * 5 + 4, none⟩) hgA3).trans i4; have HB4 := Lib.hid (HB3.out.trans (hb2.mono HB3.out.size))))
            go_wp2_with fail
            refine hK.out _ _ (by (try dsimp only); go_keep) (fun hHeld => ?_)
            clear hK K
            try simp only [Act.put, List.setIfInBounds_toArray, List.set_cons_zero, List.set_cons_succ]
            refine wpAnyH_take (i := 14) (oi := { dst := some 26, op := Op.binOp BinOp.geq 3 (Operand.tmp 25) (Operand.const (Value.int IntKind.i64 0)) 3, type := 4, pos := "pagetable.go:25", after := #[{ on := 13, ground := Ground.data }, { on := 6, ground := Ground.guard }], guard := some (6, true) }) (v := ?_) rfl (by kernel_rfl) (by kernel_rfl) (by kernel_rfl) (fun _ _ _ h => h) (Or.inl ⟨by rfl, ?_⟩) (by assumption) ?_
            rotate_left
            focus ((intro w hSw; (try dsimp only at hSw); go_simp) <;> (try with_reducible rfl))
            try simp only [Act.put, List.setIfInBounds_toArray, List.set_cons_zero, List.set_cons_succ]
            refine wpAnyH_take (i := 15) (oi := { dst := some 27, op := Op.pick (Operand.tmp 18) (Operand.tmp 26) (Operand.const (Value.bool false)), type := 4, pos := "pagetable.go:25", after := #[{ on := 6, ground := Ground.data }, { on := 14, ground := Ground.data }, { on := 3, ground := Ground.guard }], guard := some (3, false) }) (v := ?_) rfl (by kernel_rfl) (by kernel_rfl) (by kernel_rfl) (fun _ _ _ h => h) (Or.inl ⟨by rfl, ?_⟩) (by assumption) ?_
            rotate_left
            focus ((intro w hSw; (try dsimp only at hSw); go_simp) <;> (try with_reducible rfl))
            try simp only [Act.put, List.setIfInBounds_toArray, List.set_cons_zero, List.set_cons_succ]
            refine wpAnyH_take (i := 16) (oi := { dst := some 28, op := Op.pick (Operand.tmp 15) (Operand.const (Value.bool true)) (Operand.tmp 27), type := 4, pos := "pagetable.go:25", after := #[{ on := 3, ground := Ground.data }, { on := 15, ground := Ground.data }], guard := none }) (v := ?_) rfl (by kernel_rfl) (by kernel_rfl) (by kernel_rfl) (fun _ _ _ h => h) (Or.inl ⟨by rfl, ?_⟩) (by assumption) ?_
            rotate_left
            focus ((intro w hSw; (try dsimp only at hSw); go_simp) <;> (try with_reducible rfl))
            try simp only [Act.put, List.setIfInBounds_toArray, List.set_cons_zero, List.set_cons_succ]
            refine wpAnyH_done (by kernel_rfl) ?_ _
            go_wp2_with fail
            go_roundw
            case rel => exact ⟨k + 1, by omega, by go_num, HB4, HT⟩
            case measure => simp [intOf]; omega
          | false =>
            have hcm := hge rfl
            have hF := HFA.out HOK.out
            clear HST HFA HOK hle hge
            refine wp_region_held_drew (S := fun w' => w'.cell? ⟨A, 0, none⟩ = some (.int .i64 s) ∧ w'.cell? ⟨A, 1, none⟩ = some (.int .i64 c) ∧ w'.cell? ⟨A, 2, none⟩ = some (.int .i64 f) ∧ w'.cell? ⟨A, 3, none⟩ = some (.bool p) ∧ w'.cell? ⟨A, 4, none⟩ = some (.bool q) ∧ w'.cell? ⟨g, j * 5, none⟩ = some (.int .i64 s') ∧ w'.cell? ⟨g, j * 5 + 1, none⟩ = some (.int .i64 c') ∧ w'.cell? ⟨g, j * 5 + 2, none⟩ = some (.int .i64 f') ∧ w'.cell? ⟨g, j * 5 + 3, none⟩ = some (.bool p') ∧ w'.cell? ⟨g, j * 5 + 4, none⟩ = some (.bool q')) (by kernel_rfl) (by (try dsimp only); go_keep) (fun hHeld => ?_)
            refine wpAnyH_take (i := 0) (oi := { dst := some 12, op := Op.load 30 (Operand.tmp 4), type := 30, pos := "pagetable.go:25", after := #[], guard := none }) (v := ?_) rfl (by kernel_rfl) (by kernel_rfl) (by kernel_rfl) (fun _ _ _ h => h) (Or.inl ⟨by rfl, ?_⟩) (by assumption) ?_
            rotate_left
            focus ((intro w hSw; (try dsimp only at hSw); go_simp) <;> (try with_reducible rfl))
            try simp only [Act.put, List.setIfInBounds_toArray, List.set_cons_zero, List.set_cons_succ]
            refine wpAnyH_ready (rs := [1]) (by kernel_rfl) (by simp) ?_
            refine AllReadyH.cons (o := { dst := some 13, op := Op.call { callee := Callee.value (Operand.func 32), args := #[Operand.tmp 12], argTypes := #[30] }, type := 4, pos := "pagetable.go:25", after := #[{ on := 0, ground := Ground.data }], guard := none }) rfl (fun K hK => ?_) AllReadyH.nil
            go_simp
            (first | (go_at_call 32; refine (HR.out _).mono ?_; rintro e w3 ⟨rfl, hb⟩; have j0 := (hb.cell (p := ⟨A, 0, none⟩) hA).trans c0; have j1 := (hb.cell (p := ⟨A, 1, none⟩) hA).trans c1; have j2 := (hb.cell (p := ⟨A, 2, none⟩) hA).trans c2; have j3 := (hb.cell (p := ⟨A, 3, none⟩) hA).trans c3; have j4 := (hb.cell (p := ⟨A, 4, none⟩) hA).trans c4; have i0 := (hb.cell (p := ⟨g, j * 5, none⟩) hgA).trans d0; have i1 := (hb.cell (p := ⟨g, j * 5 + 1, none⟩) hgA).trans d1; have i2 := (hb.cell (p := ⟨g, j * 5 + 2, none⟩) hgA).trans d2; have i3 := (hb.cell (p := ⟨g, j * 5 + 3, none⟩) hgA).trans d3; have i4 := (hb.cell (p := ⟨g, j * 5 + 4, none⟩) hgA).trans d4; have HB3 := Lib.hid (HBd.out.trans (hb.mono HBd.out.size)); have hA3 := Nat.lt_of_lt_of_le hA hb.size; have hgA3 := Nat.lt_of_lt_of_le hgA hb.size) | (go_at_call 34; refine (HM2.out _).mono ?_; rintro e w4 ⟨rfl, hb2⟩; have m0 := (hb2.cell (p := ⟨A, 0, none⟩) hA3).trans j0; have m1 := (hb2.cell (p := ⟨A, 1, none⟩) hA3).trans j1; have m2 := (hb2.cell (p := ⟨A, 2, none⟩) hA3).trans j2; have m3 := (hb2.cell (p := ⟨A, 3, none⟩) hA3).trans j3; have m4 := (hb2.cell (p := ⟨A, 4, none⟩) hA3).trans j4; have n0 := (hb2.cell (p := ⟨g, j * 5, none⟩) hgA3).trans i0; have n1 := (hb2.cell (p := ⟨g, j * 5 + 1, none⟩) hgA3).trans i1; have n2 := (hb2.cell (p := ⟨g, j * 5 + 2, none⟩) hgA3).trans i2; have n3 := (hb2.cell (p := ⟨g, j * 5 + 3, none⟩) hgA3).trans i3; have n4 := (hb2.cell (p := ⟨g, j * 5 + 4, none⟩) hgA3).trans i4; have HB4 := Lib.hid (HB3.out.trans (hb2.mono HB3.out.size))))
            go_wp2_with fail
            refine hK.out _ _ (by (try dsimp only); go_keep) (fun hHeld => ?_)
            clear hK K
            try simp only [Act.put, List.setIfInBounds_toArray, List.set_cons_zero, List.set_cons_succ]
            refine wpAnyH_take (i := 2) (oi := { dst := some 14, op := Op.unOp UnOp.not 4 (Operand.tmp 13), type := 4, pos := "pagetable.go:25", after := #[{ on := 1, ground := Ground.data }], guard := none }) (v := ?_) rfl (by kernel_rfl) (by kernel_rfl) (by kernel_rfl) (fun _ _ _ h => h) (Or.inl ⟨by rfl, ?_⟩) (by assumption) ?_
            rotate_left
            focus ((intro w hSw; (try dsimp only at hSw); go_simp) <;> (try with_reducible rfl))
            try simp only [Act.put, List.setIfInBounds_toArray, List.set_cons_zero, List.set_cons_succ]
            refine wpAnyH_take (i := 3) (oi := { dst := some 15, op := Op.move (Operand.tmp 14), type := 4, pos := "pagetable.go:25", after := #[{ on := 2, ground := Ground.data }, { on := 1, ground := Ground.chain }], guard := none }) (v := ?_) rfl (by kernel_rfl) (by kernel_rfl) (by kernel_rfl) (fun _ _ _ h => h) (Or.inl ⟨by rfl, ?_⟩) (by assumption) ?_
            rotate_left
            focus ((intro w hSw; (try dsimp only at hSw); go_simp) <;> (try with_reducible rfl))
            try simp only [Act.put, List.setIfInBounds_toArray, List.set_cons_zero, List.set_cons_succ]
            refine wpAnyH_take (i := 4) (oi := { dst := some 16, op := Op.move (Operand.tmp 3), type := 3, pos := "pagetable.go:25", after := #[{ on := 3, ground := Ground.guard }], guard := some (3, false) }) (v := ?_) rfl (by kernel_rfl) (by kernel_rfl) (by kernel_rfl) (fun _ _ _ h => h) (Or.inl ⟨by rfl, ?_⟩) (by assumption) ?_
            rotate_left
            focus ((intro w hSw; (try dsimp only at hSw); go_simp) <;> (try with_reducible rfl))
            try simp only [Act.put, List.setIfInBounds_toArray, List.set_cons_zero, List.set_cons_succ]
            refine wpAnyH_take (i := 5) (oi := { dst := some 17, op := Op.binOp BinOp.gtr 3 (Operand.tmp 16) (Operand.const (Value.int IntKind.i64 0)) 3, type := 4, pos := "pagetable.go:25", after := #[{ on := 4, ground := Ground.data }, { on := 3, ground := Ground.guard }], guard := some (3, false) }) (v := ?_) rfl (by kernel_rfl) (by kernel_rfl) (by kernel_rfl) (fun _ _ _ h => h) (Or.inl ⟨by rfl, ?_⟩) (by assumption) ?_
            rotate_left
            focus ((intro w hSw; (try dsimp only at hSw); go_simp) <;> (try with_reducible rfl))
            try simp only [Act.put, List.setIfInBounds_toArray, List.set_cons_zero, List.set_cons_succ]
            refine wpAnyH_take (i := 6) (oi := { dst := some 18, op := Op.move (Operand.tmp 17), type := 4, pos := "pagetable.go:25", after := #[{ on := 5, ground := Ground.data }, { on := 3, ground := Ground.chain }, { on := 3, ground := Ground.guard }], guard := some (3, false) }) (v := ?_) rfl (by kernel_rfl) (by kernel_rfl) (by kernel_rfl) (fun _ _ _ h => h) (Or.inl ⟨by rfl, ?_⟩) (by assumption) ?_
            rotate_left
            focus ((intro w hSw; (try dsimp only at hSw); go_simp) <;> (try with_reducible rfl))
            try simp only [Act.put, List.setIfInBounds_toArray, List.set_cons_zero, List.set_cons_succ]
            refine wpAnyH_take (i := 7) (oi := { dst := some 19, op := Op.move (Operand.tmp 0), type := 26, pos := "pagetable.go:25", after := #[{ on := 6, ground := Ground.guard }], guard := some (6, true) }) (v := ?_) rfl (by kernel_rfl) (by kernel_rfl) (by kernel_rfl) (fun _ _ _ h => h) (Or.inl ⟨by rfl, ?_⟩) (by assumption) ?_
            rotate_left
            focus ((intro w hSw; (try dsimp only at hSw); go_simp) <;> (try with_reducible rfl))
            try simp only [Act.put, List.setIfInBounds_toArray, List.set_cons_zero, List.set_cons_succ]
            refine wpAnyH_take (i := 8) (oi := { dst := some 20, op := Op.move (Operand.tmp 3), type := 3, pos := "pagetable.go:25", after := #[{ on := 6, ground := Ground.guard }], guard := some (6, true) }) (v := ?_) rfl (by kernel_rfl) (by kernel_rfl) (by kernel_rfl) (fun _ _ _ h => h) (Or.inl ⟨by rfl, ?_⟩) (by assumption) ?_
            rotate_left
            focus ((intro w hSw; (try dsimp only at hSw); go_simp) <;> (try with_reducible rfl))
            try simp only [Act.put, List.setIfInBounds_toArray, List.set_cons_zero, List.set_cons_succ]
            refine wpAnyH_take (i := 9) (oi := { dst := some 21, op := Op.binOp BinOp.sub 3 (Operand.tmp 20) (Operand.const (Value.int IntKind.i64 1)) 3, type := 3, pos := "pagetable.go:25", after := #[{ on := 8, ground := Ground.data }, { on := 6, ground := Ground.guard }], guard := some (6, true) }) (v := ?_) rfl (by kernel_rfl) (by kernel_rfl) (by kernel_rfl) (fun _ _ _ h => h) (Or.inl ⟨by rfl, ?_⟩) (by assumption) ?_
            rotate_left
            focus ((intro w hSw; (try dsimp only at hSw); go_simp) <;> (try with_reducible rfl))
            try simp only [Act.put, List.setIfInBounds_toArray, List.set_cons_zero, List.set_cons_succ]
            refine wpAnyH_take (i := 10) (oi := { dst := some 22, op := Op.indexAddr 26 (Operand.tmp 19) (Operand.tmp 21), type := 0, pos := "pagetable.go:25", after := #[{ on := 7, ground := Ground.data }, { on := 9, ground := Ground.data }, { on := 6, ground := Ground.guard }], guard := some (6, true) }) (v := ?_) rfl (by kernel_rfl) (by kernel_rfl) (by kernel_rfl) (fun _ _ _ h => h) (Or.inl ⟨by rfl, ?_⟩) (by assumption) ?_
            rotate_left
            focus ((intro w hSw; (try dsimp only at hSw); go_simp) <;> (try with_reducible rfl))
            try simp only [Act.put, List.setIfInBounds_toArray, List.set_cons_zero, List.set_cons_succ]
            refine wpAnyH_take (i := 11) (oi := { dst := some 23, op := Op.load 30 (Operand.tmp 22), type := 30, pos := "pagetable.go:25", after := #[{ on := 10, ground := Ground.data }, { on := 6, ground := Ground.guard }], guard := some (6, true) }) (v := ?_) rfl (by kernel_rfl) (by kernel_rfl) (by kernel_rfl) (fun _ _ _ h => h) (Or.inl ⟨by rfl, ?_⟩) (by assumption) ?_
            rotate_left
            focus ((intro w hSw; (try dsimp only at hSw); go_simp) <;> (try with_reducible rfl))
            try simp only [Act.put, List.setIfInBounds_toArray, List.set_cons_zero, List.set_cons_succ]
            refine wpAnyH_take (i := 12) (oi := { dst := some 24, op := Op.load 30 (Operand.tmp 4), type := 30, pos := "pagetable.go:25", after := #[{ on := 6, ground := Ground.guard }], guard := some (6, true) }) (v := ?_) rfl (by kernel_rfl) (by kernel_rfl) (by kernel_rfl) (fun _ _ _ h => h) (Or.inl ⟨by rfl, ?_⟩) (by assumption) ?_
            rotate_left
            focus ((intro w hSw; (try dsimp only at hSw); go_simp) <;> (try with_reducible rfl))
            try simp only [Act.put, List.setIfInBounds_toArray, List.set_cons_zero, List.set_cons_succ]
            refine wpAnyH_ready (rs := [13]) (by kernel_rfl) (by simp) ?_
            refine AllReadyH.cons (o := { dst := some 25, op := Op.call { callee := Callee.value (Operand.func 34), args := #[Operand.tmp 23, Operand.tmp 24], argTypes := #[30, 30] }, type := 3, pos := "pagetable.go:25", after := #[{ on := 11, ground := Ground.data }, { on := 12, ground := Ground.data }, { on := 6, ground := Ground.chain }, { on := 6, ground := Ground.guard }], guard := some (6, true) }) rfl (fun K hK => ?_) AllReadyH.nil
            go_simp
            (first | (go_at_call 32; refine (HR.out _).mono ?_; rintro e w3 ⟨rfl, hb⟩; have j0 := (hb.cell (p := ⟨A, 0, none⟩) hA).trans c0; have j1 := (hb.cell (p := ⟨A, 1, none⟩) hA).trans c1; have j2 := (hb.cell (p := ⟨A, 2, none⟩) hA).trans c2; have j3 := (hb.cell (p := ⟨A, 3, none⟩) hA).trans c3; have j4 := (hb.cell (p := ⟨A, 4, none⟩) hA).trans c4; have i0 := (hb.cell (p := ⟨g, j * 5, none⟩) hgA).trans d0; have i1 := (hb.cell (p := ⟨g, j * 5 + 1, none⟩) hgA).trans d1; have i2 := (hb.cell (p := ⟨g, j * 5 + 2, none⟩) hgA).trans d2; have i3 := (hb.cell (p := ⟨g, j * 5 + 3, none⟩) hgA).trans d3; have i4 := (hb.cell (p := ⟨g, j * 5 + 4, none⟩) hgA).trans d4; have HB3 := Lib.hid (HBd.out.trans (hb.mono HBd.out.size)); have hA3 := Nat.lt_of_lt_of_le hA hb.size; have hgA3 := Nat.lt_of_lt_of_le hgA hb.size) | (go_at_call 34; refine (HM2.out _).mono ?_; rintro e w4 ⟨rfl, hb2⟩; have m0 := (hb2.cell (p := ⟨A, 0, none⟩) hA3).trans j0; have m1 := (hb2.cell (p := ⟨A, 1, none⟩) hA3).trans j1; have m2 := (hb2.cell (p := ⟨A, 2, none⟩) hA3).trans j2; have m3 := (hb2.cell (p := ⟨A, 3, none⟩) hA3).trans j3; have m4 := (hb2.cell (p := ⟨A, 4, none⟩) hA3).trans j4; have n0 := (hb2.cell (p := ⟨g, j * 5, none⟩) hgA3).trans i0; have n1 := (hb2.cell (p := ⟨g, j * 5 + 1, none⟩) hgA3).trans i1; have n2 := (hb2.cell (p := ⟨g, j * 5 + 2, none⟩) hgA3).trans i2; have n3 := (hb2.cell (p := ⟨g, j * 5 + 3, none⟩) hgA3).trans i3; have n4 := (hb2.cell (p := ⟨g, j * 5 + 4, none⟩) hgA3).trans i4; have HB4 := Lib.hid (HB3.out.trans (hb2.mono HB3.out.size))))
            go_wp2_with fail
            refine hK.out _ _ (by (try dsimp only); go_keep) (fun hHeld => ?_)
            clear hK K
            try simp only [Act.put, List.setIfInBounds_toArray, List.set_cons_zero, List.set_cons_succ]
            refine wpAnyH_take (i := 14) (oi := { dst := some 26, op := Op.binOp BinOp.geq 3 (Operand.tmp 25) (Operand.const (Value.int IntKind.i64 0)) 3, type := 4, pos := "pagetable.go:25", after := #[{ on := 13, ground := Ground.data }, { on := 6, ground := Ground.guard }], guard := some (6, true) }) (v := ?_) rfl (by kernel_rfl) (by kernel_rfl) (by kernel_rfl) (fun _ _ _ h => h) (Or.inl ⟨by rfl, ?_⟩) (by assumption) ?_
            rotate_left
            focus ((intro w hSw; (try dsimp only at hSw); go_simp) <;> (try with_reducible rfl))
            try simp only [Act.put, List.setIfInBounds_toArray, List.set_cons_zero, List.set_cons_succ]
            refine wpAnyH_take (i := 15) (oi := { dst := some 27, op := Op.pick (Operand.tmp 18) (Operand.tmp 26) (Operand.const (Value.bool false)), type := 4, pos := "pagetable.go:25", after := #[{ on := 6, ground := Ground.data }, { on := 14, ground := Ground.data }, { on := 3, ground := Ground.guard }], guard := some (3, false) }) (v := ?_) rfl (by kernel_rfl) (by kernel_rfl) (by kernel_rfl) (fun _ _ _ h => h) (Or.inl ⟨by rfl, ?_⟩) (by assumption) ?_
            rotate_left
            focus ((intro w hSw; (try dsimp only at hSw); go_simp) <;> (try with_reducible rfl))
            try simp only [Act.put, List.setIfInBounds_toArray, List.set_cons_zero, List.set_cons_succ]
            refine wpAnyH_take (i := 16) (oi := { dst := some 28, op := Op.pick (Operand.tmp 15) (Operand.const (Value.bool true)) (Operand.tmp 27), type := 4, pos := "pagetable.go:25", after := #[{ on := 3, ground := Ground.data }, { on := 15, ground := Ground.data }], guard := none }) (v := ?_) rfl (by kernel_rfl) (by kernel_rfl) (by kernel_rfl) (fun _ _ _ h => h) (Or.inl ⟨by rfl, ?_⟩) (by assumption) ?_
            rotate_left
            focus ((intro w hSw; (try dsimp only at hSw); go_simp) <;> (try with_reducible rfl))
            try simp only [Act.put, List.setIfInBounds_toArray, List.set_cons_zero, List.set_cons_succ]
            refine wpAnyH_done (by kernel_rfl) ?_ _
            go_wp2_with fail
            go_ret
            exact RetW.mk (by rw [hF]; rfl) HB4.out
    · obtain rfl : k = l.length := by omega
      have HV : Hid (checkV l = true) := HC.out
      go_wp2_with fail
      go_ret
      exact RetW.mk (by rw [HV.out]; rfl) HB.out
end Go.Proofs.Ytodonnagmgbliaa
