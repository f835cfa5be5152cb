/- Checking a list of entries: the document's. -/
import Derived.Test.YtodonnagmgbliaaCk
namespace Go.Proofs.Ytodonnagmgbliaa
open Go.ChangeShapes Go.WideShapes Go.ChangeAt Go.RowKit

set_option maxHeartbeats 4000000 in
theorem checkR_any (B : Nat) (a : Option Addr) (l : List Ar) (cap : Nat) (w : World) (h : ARow B a cap l w) (hl : l.length ≤ 100) :
    Calls Try.prog 17 #[.slice a l.length cap] w (RetW (.bool (checkV l)) w) := by
  have HA : Hid (∀ j, j < l.length → ∃ g, a = some ⟨g, 0, none⟩ ∧ g < w.heap.size ∧ (l.length : Int) ≤ cap ∧ Cel w g (j * 5) (l.getD j Ar.zero)) := by
    intro j hj
    obtain ⟨g, h1, h2, h3, h4, h5, h6⟩ := h.at (by omega)
    exact ⟨g, h1, h3, by omega, h6 j hj⟩
  clear h
  go_enter Try.func17, Try.ntmps17
  go_wp2_with fail
  go_loopw [3] (fun v3 wr => ∃ k : Nat, k ≤ l.length ∧ v3 = .int .i64 k ∧ Hid (Below w.heap.size w wr) ∧ Hid (chkTo l k = true)) (fun v3 _ => 200 - (intOf v3).toNat)
  case atStart => exact ⟨0, Nat.zero_le _, rfl, Below.refl _ _, rfl⟩
  case round =>
    obtain ⟨k, hk, rfl, HB, HC⟩ := hrel
    by_cases hlt : k < l.length
    · have hlt' : (k : Int) < (l.length : Int) := by omega
      obtain ⟨g, rfl, hg, hcap, hcel⟩ := HA.out k hlt
      have hcw := hcel.eq (w' := wr) (fun i => HB.out.cell (p := ⟨g, i, none⟩) hg)
      have hprev : ∀ j, k = j + 1 → Cel wr g (j * 5) (l.getD j Ar.zero) := fun j hj => by
        obtain ⟨g', e1, e2, e3, e4⟩ := HA.out j (by omega)
        cases e1
        exact e4.eq (w' := wr) (fun i => HB.out.cell (p := ⟨g, i, none⟩) hg)
      have HP := Lib.hid hprev
      have HST : Hid (okAt l k = true → chkTo l (k + 1) = true) := fun h => by rw [chkTo_succ, HC.out, h]; rfl
      have HFA : Hid (okAt l k = false → checkV l = false) := fun h => chkTo_false h hlt
      have HOK : Hid (okAt l k = (rightB (l.getD k Ar.zero) && (decide (k = 0) || lessB (l.getD (k - 1) Ar.zero) (l.getD k Ar.zero)))) := rfl
      clear hcel hprev HA
      generalize okAt l k = okk at *
      generalize hee : l.getD k Ar.zero = e at *
      clear hee
      have HR := Lib.hid (fun w => rightR_any e w)
      have HM := Lib.hid (fun x w => less_any x e w)
      obtain ⟨k0, k1, k2, k3, k4⟩ := hcw
      have hg2 : g < wr.heap.size := Nat.lt_of_lt_of_le hg HB.out.size
      unfold arVal at HR HM
      obtain ⟨s, c, f, p, q⟩ := e
      simp only at k0 k1 k2 k3 k4 HR HM
      have HBd : Hid (Below w.heap.size w wr.drew) := HB.out.drew
      generalize rightB ⟨s, c, f, p, q⟩ = rb at *
      cases rb with
      | false =>
        have hF := HFA.out (by rw [HOK.out]; rfl)
        clear HP HST HFA HOK
        go_wp2_with fail
        refine wp_region_held_drew (S := fun w' => w'.cell? ⟨g, k * 5, none⟩ = some (.int .i64 s) ∧ w'.cell? ⟨g, k * 5 + 1, none⟩ = some (.int .i64 c) ∧ w'.cell? ⟨g, k * 5 + 2, none⟩ = some (.int .i64 f) ∧ w'.cell? ⟨g, k * 5 + 3, none⟩ = some (.bool p) ∧ w'.cell? ⟨g, k * 5 + 4, none⟩ = some (.bool q)) (by kernel_rfl) (by (try dsimp only); go_keep) (fun hHeld => ?_)
        refine wpAnyH_take (i := 0) (oi := { dst := some 10, op := Op.move (Operand.tmp 0), type := 26, pos := "ref.go:19", after := #[], guard := none }) (v := ?_) rfl (by kernel_rfl) (by kernel_rfl) (by kernel_rfl) (fun _ _ _ h => h) (Or.inl ⟨by rfl, ?_⟩) (by assumption) ?_
        rotate_left
        focus ((intro w hSw; (try dsimp only at hSw); go_simp) <;> (try with_reducible rfl))
        try simp only [Act.put, List.setIfInBounds_toArray, List.set_cons_zero, List.set_cons_succ]
        refine wpAnyH_take (i := 1) (oi := { dst := some 11, op := Op.move (Operand.tmp 3), type := 3, pos := "ref.go:19", after := #[], guard := none }) (v := ?_) rfl (by kernel_rfl) (by kernel_rfl) (by kernel_rfl) (fun _ _ _ h => h) (Or.inl ⟨by rfl, ?_⟩) (by assumption) ?_
        rotate_left
        focus ((intro w hSw; (try dsimp only at hSw); go_simp) <;> (try with_reducible rfl))
        try simp only [Act.put, List.setIfInBounds_toArray, List.set_cons_zero, List.set_cons_succ]
        refine wpAnyH_take (i := 2) (oi := { dst := some 12, op := Op.indexAddr 26 (Operand.tmp 10) (Operand.tmp 11), type := 0, pos := "ref.go:19", after := #[{ on := 0, ground := Ground.data }, { on := 1, ground := Ground.data }], guard := none }) (v := ?_) rfl (by kernel_rfl) (by kernel_rfl) (by kernel_rfl) (fun _ _ _ h => h) (Or.inl ⟨by rfl, ?_⟩) (by assumption) ?_
        rotate_left
        focus ((intro w hSw; (try dsimp only at hSw); go_simp) <;> (try with_reducible rfl))
        try simp only [Act.put, List.setIfInBounds_toArray, List.set_cons_zero, List.set_cons_succ]
        refine wpAnyH_take (i := 3) (oi := { dst := some 13, op := Op.load 30 (Operand.tmp 12), type := 30, pos := "ref.go:19", after := #[{ on := 2, ground := Ground.data }], guard := none }) (v := ?_) rfl (by kernel_rfl) (by kernel_rfl) (by kernel_rfl) (fun _ _ _ h => h) (Or.inl ⟨by rfl, ?_⟩) (by assumption) ?_
        rotate_left
        focus ((intro w hSw; (try dsimp only at hSw); go_simp) <;> (try with_reducible rfl))
        try simp only [Act.put, List.setIfInBounds_toArray, List.set_cons_zero, List.set_cons_succ]
        refine wpAnyH_ready (rs := [4]) (by kernel_rfl) (by simp) ?_
        refine AllReadyH.cons (o := { dst := some 14, op := Op.call { callee := Callee.value (Operand.func 36), args := #[Operand.tmp 13], argTypes := #[30] }, type := 4, pos := "ref.go:19", after := #[{ on := 3, ground := Ground.data }], guard := none }) rfl (fun K hK => ?_) AllReadyH.nil
        go_simp
        (first | (go_at_call 36; refine (HR.out _).mono ?_; rintro e w3 ⟨rfl, hb⟩; have j0 := (hb.cell (p := ⟨g, k * 5, none⟩) hg2).trans k0; have j1 := (hb.cell (p := ⟨g, k * 5 + 1, none⟩) hg2).trans k1; have j2 := (hb.cell (p := ⟨g, k * 5 + 2, none⟩) hg2).trans k2; have j3 := (hb.cell (p := ⟨g, k * 5 + 3, none⟩) hg2).trans k3; have j4 := (hb.cell (p := ⟨g, k * 5 + 4, none⟩) hg2).trans k4; have HB3 := Lib.hid (HBd.out.trans (hb.mono HBd.out.size)); have hg3 := Nat.lt_of_lt_of_le hg2 hb.size))
        go_wp2_with fail
        refine hK.out _ _ (by (try dsimp only); go_keep) (fun hHeld => ?_)
        clear hK K
        try simp only [Act.put, List.setIfInBounds_toArray, List.set_cons_zero, List.set_cons_succ]
        refine wpAnyH_take (i := 5) (oi := { dst := some 15, op := Op.unOp UnOp.not 4 (Operand.tmp 14), type := 4, pos := "ref.go:19", after := #[{ on := 4, ground := Ground.data }], guard := none }) (v := ?_) rfl (by kernel_rfl) (by kernel_rfl) (by kernel_rfl) (fun _ _ _ h => h) (Or.inl ⟨by rfl, ?_⟩) (by assumption) ?_
        rotate_left
        focus ((intro w hSw; (try dsimp only at hSw); go_simp) <;> (try with_reducible rfl))
        try simp only [Act.put, List.setIfInBounds_toArray, List.set_cons_zero, List.set_cons_succ]
        refine wpAnyH_take (i := 6) (oi := { dst := some 16, op := Op.move (Operand.tmp 15), type := 4, pos := "ref.go:19", after := #[{ on := 5, ground := Ground.data }, { on := 4, ground := Ground.chain }], guard := none }) (v := ?_) rfl (by kernel_rfl) (by kernel_rfl) (by kernel_rfl) (fun _ _ _ h => h) (Or.inl ⟨by rfl, ?_⟩) (by assumption) ?_
        rotate_left
        focus ((intro w hSw; (try dsimp only at hSw); go_simp) <;> (try with_reducible rfl))
        try simp only [Act.put, List.setIfInBounds_toArray, List.set_cons_zero, List.set_cons_succ]
        refine wpAnyH_take (i := 7) (oi := { dst := some 17, op := Op.move (Operand.tmp 3), type := 3, pos := "ref.go:19", after := #[{ on := 6, ground := Ground.guard }], guard := some (6, false) }) (v := undef) rfl (by kernel_rfl) (by kernel_rfl) (by kernel_rfl) (fun _ _ _ h => h) (Or.inr ⟨by rfl, rfl⟩) (by assumption) ?_
        try simp only [Act.put, List.setIfInBounds_toArray, List.set_cons_zero, List.set_cons_succ]
        refine wpAnyH_take (i := 8) (oi := { dst := some 18, op := Op.binOp BinOp.gtr 3 (Operand.tmp 17) (Operand.const (Value.int IntKind.i64 0)) 3, type := 4, pos := "ref.go:19", after := #[{ on := 7, ground := Ground.data }, { on := 6, ground := Ground.guard }], guard := some (6, false) }) (v := undef) rfl (by kernel_rfl) (by kernel_rfl) (by kernel_rfl) (fun _ _ _ h => h) (Or.inr ⟨by rfl, rfl⟩) (by assumption) ?_
        try simp only [Act.put, List.setIfInBounds_toArray, List.set_cons_zero, List.set_cons_succ]
        refine wpAnyH_take (i := 9) (oi := { dst := some 19, op := Op.move (Operand.tmp 18), type := 4, pos := "ref.go:19", after := #[{ on := 8, ground := Ground.data }, { on := 6, ground := Ground.chain }, { on := 6, ground := Ground.guard }], guard := some (6, false) }) (v := undef) rfl (by kernel_rfl) (by kernel_rfl) (by kernel_rfl) (fun _ _ _ h => h) (Or.inr ⟨by rfl, rfl⟩) (by assumption) ?_
        try simp only [Act.put, List.setIfInBounds_toArray, List.set_cons_zero, List.set_cons_succ]
        refine wpAnyH_take (i := 10) (oi := { dst := some 20, op := Op.move (Operand.tmp 0), type := 26, pos := "ref.go:19", after := #[{ on := 9, ground := Ground.guard }], guard := some (9, true) }) (v := undef) rfl (by kernel_rfl) (by kernel_rfl) (by kernel_rfl) (fun _ _ _ h => h) (Or.inr ⟨by rfl, rfl⟩) (by assumption) ?_
        try simp only [Act.put, List.setIfInBounds_toArray, List.set_cons_zero, List.set_cons_succ]
        refine wpAnyH_take (i := 11) (oi := { dst := some 21, op := Op.move (Operand.tmp 3), type := 3, pos := "ref.go:19", after := #[{ on := 9, ground := Ground.guard }], guard := some (9, true) }) (v := undef) rfl (by kernel_rfl) (by kernel_rfl) (by kernel_rfl) (fun _ _ _ h => h) (Or.inr ⟨by rfl, rfl⟩) (by assumption) ?_
        try simp only [Act.put, List.setIfInBounds_toArray, List.set_cons_zero, List.set_cons_succ]
        refine wpAnyH_take (i := 12) (oi := { dst := some 22, op := Op.binOp BinOp.sub 3 (Operand.tmp 21) (Operand.const (Value.int IntKind.i64 1)) 3, type := 3, pos := "ref.go:19", after := #[{ on := 11, ground := Ground.data }, { on := 9, ground := Ground.guard }], guard := some (9, true) }) (v := undef) rfl (by kernel_rfl) (by kernel_rfl) (by kernel_rfl) (fun _ _ _ h => h) (Or.inr ⟨by rfl, rfl⟩) (by assumption) ?_
        try simp only [Act.put, List.setIfInBounds_toArray, List.set_cons_zero, List.set_cons_succ]
        refine wpAnyH_take (i := 13) (oi := { dst := some 23, op := Op.indexAddr 26 (Operand.tmp 20) (Operand.tmp 22), type := 0, pos := "ref.go:19", after := #[{ on := 10, ground := Ground.data }, { on := 12, ground := Ground.data }, { on := 9, ground := Ground.guard }], guard := some (9, true) }) (v := undef) rfl (by kernel_rfl) (by kernel_rfl) (by kernel_rfl) (fun _ _ _ h => h) (Or.inr ⟨by rfl, rfl⟩) (by assumption) ?_
        try simp only [Act.put, List.setIfInBounds_toArray, List.set_cons_zero, List.set_cons_succ]
        refine wpAnyH_take (i := 14) (oi := { dst := some 24, op := Op.load 30 (Operand.tmp 23), type := 30, pos := "ref.go:19", after := #[{ on := 13, ground := Ground.data }, { on := 9, ground := Ground.guard }], guard := some (9, true) }) (v := undef) rfl (by kernel_rfl) (by kernel_rfl) (by kernel_rfl) (fun _ _ _ h => h) (Or.inr ⟨by rfl, rfl⟩) (by assumption) ?_
        try simp only [Act.put, List.setIfInBounds_toArray, List.set_cons_zero, List.set_cons_succ]
        refine wpAnyH_take (i := 15) (oi := { dst := some 25, op := Op.move (Operand.tmp 0), type := 26, pos := "ref.go:19", after := #[{ on := 9, ground := Ground.guard }], guard := some (9, true) }) (v := undef) rfl (by kernel_rfl) (by kernel_rfl) (by kernel_rfl) (fun _ _ _ h => h) (Or.inr ⟨by rfl, rfl⟩) (by assumption) ?_
        try simp only [Act.put, List.setIfInBounds_toArray, List.set_cons_zero, List.set_cons_succ]
        refine wpAnyH_take (i := 16) (oi := { dst := some 26, op := Op.move (Operand.tmp 3), type := 3, pos := "ref.go:19", after := #[{ on := 9, ground := Ground.guard }], guard := some (9, true) }) (v := undef) rfl (by kernel_rfl) (by kernel_rfl) (by kernel_rfl) (fun _ _ _ h => h) (Or.inr ⟨by rfl, rfl⟩) (by assumption) ?_
        try simp only [Act.put, List.setIfInBounds_toArray, List.set_cons_zero, List.set_cons_succ]
        refine wpAnyH_take (i := 17) (oi := { dst := some 27, op := Op.indexAddr 26 (Operand.tmp 25) (Operand.tmp 26), type := 0, pos := "ref.go:19", after := #[{ on := 15, ground := Ground.data }, { on := 16, ground := Ground.data }, { on := 9, ground := Ground.guard }], guard := some (9, true) }) (v := undef) rfl (by kernel_rfl) (by kernel_rfl) (by kernel_rfl) (fun _ _ _ h => h) (Or.inr ⟨by rfl, rfl⟩) (by assumption) ?_
        try simp only [Act.put, List.setIfInBounds_toArray, List.set_cons_zero, List.set_cons_succ]
        refine wpAnyH_take (i := 18) (oi := { dst := some 28, op := Op.load 30 (Operand.tmp 27), type := 30, pos := "ref.go:19", after := #[{ on := 17, ground := Ground.data }, { on := 9, ground := Ground.guard }], guard := some (9, true) }) (v := undef) rfl (by kernel_rfl) (by kernel_rfl) (by kernel_rfl) (fun _ _ _ h => h) (Or.inr ⟨by rfl, rfl⟩) (by assumption) ?_
        try simp only [Act.put, List.setIfInBounds_toArray, List.set_cons_zero, List.set_cons_succ]
        refine wpAnyH_take (i := 19) (oi := { dst := some 29, op := Op.call { callee := Callee.value (Operand.func 37), args := #[Operand.tmp 24, Operand.tmp 28], argTypes := #[30, 30] }, type := 4, pos := "ref.go:19", after := #[{ on := 14, ground := Ground.data }, { on := 18, ground := Ground.data }, { on := 9, ground := Ground.chain }, { on := 9, ground := Ground.guard }], guard := some (9, true) }) (v := undef) rfl (by kernel_rfl) (by kernel_rfl) (by kernel_rfl) (fun _ _ _ h => h) (Or.inr ⟨by rfl, rfl⟩) (by assumption) ?_
        try simp only [Act.put, List.setIfInBounds_toArray, List.set_cons_zero, List.set_cons_succ]
        refine wpAnyH_take (i := 20) (oi := { dst := some 30, op := Op.unOp UnOp.not 4 (Operand.tmp 29), type := 4, pos := "ref.go:19", after := #[{ on := 19, ground := Ground.data }, { on := 9, ground := Ground.guard }], guard := some (9, true) }) (v := undef) rfl (by kernel_rfl) (by kernel_rfl) (by kernel_rfl) (fun _ _ _ h => h) (Or.inr ⟨by rfl, rfl⟩) (by assumption) ?_
        try simp only [Act.put, List.setIfInBounds_toArray, List.set_cons_zero, List.set_cons_succ]
        refine wpAnyH_take (i := 21) (oi := { dst := some 31, op := Op.pick (Operand.tmp 19) (Operand.tmp 30) (Operand.const (Value.bool false)), type := 4, pos := "ref.go:19", after := #[{ on := 9, ground := Ground.data }, { on := 20, ground := Ground.data }, { on := 6, ground := Ground.guard }], guard := some (6, false) }) (v := undef) rfl (by kernel_rfl) (by kernel_rfl) (by kernel_rfl) (fun _ _ _ h => h) (Or.inr ⟨by rfl, rfl⟩) (by assumption) ?_
        try simp only [Act.put, List.setIfInBounds_toArray, List.set_cons_zero, List.set_cons_succ]
        refine wpAnyH_take (i := 22) (oi := { dst := some 32, op := Op.pick (Operand.tmp 16) (Operand.const (Value.bool true)) (Operand.tmp 31), type := 4, pos := "ref.go:19", after := #[{ on := 6, ground := Ground.data }, { on := 21, ground := Ground.data }], guard := none }) (v := ?_) rfl (by kernel_rfl) (by kernel_rfl) (by kernel_rfl) (fun _ _ _ h => h) (Or.inl ⟨by rfl, ?_⟩) (by assumption) ?_
        rotate_left
        focus ((intro w hSw; (try dsimp only at hSw); go_simp) <;> (try with_reducible rfl))
        try simp only [Act.put, List.setIfInBounds_toArray, List.set_cons_zero, List.set_cons_succ]
        refine wpAnyH_done (by kernel_rfl) ?_ _
        go_wp2_with fail
        go_ret
        exact RetW.mk (by rw [hF]; rfl) HB3.out
      | true =>
        rw [Bool.true_and] at HOK
        by_cases hkz : k = 0
        · have hT := HST.out (by rw [HOK.out, decide_eq_true hkz]; rfl)
          have HT := Lib.hid hT
          have hkz2 : (k : Int) ≤ 0 := by omega
          have hkz3 : ¬ 0 < k := by omega
          clear hT HP HST HFA HOK hkz
          go_wp2_with fail
          refine wp_region_held_drew (S := fun w' => w'.cell? ⟨g, k * 5, none⟩ = some (.int .i64 s) ∧ w'.cell? ⟨g, k * 5 + 1, none⟩ = some (.int .i64 c) ∧ w'.cell? ⟨g, k * 5 + 2, none⟩ = some (.int .i64 f) ∧ w'.cell? ⟨g, k * 5 + 3, none⟩ = some (.bool p) ∧ w'.cell? ⟨g, k * 5 + 4, none⟩ = some (.bool q)) (by kernel_rfl) (by (try dsimp only); go_keep) (fun hHeld => ?_)
          refine wpAnyH_take (i := 0) (oi := { dst := some 10, op := Op.move (Operand.tmp 0), type := 26, pos := "ref.go:19", after := #[], guard := none }) (v := ?_) rfl (by kernel_rfl) (by kernel_rfl) (by kernel_rfl) (fun _ _ _ h => h) (Or.inl ⟨by rfl, ?_⟩) (by assumption) ?_
          rotate_left
          focus ((intro w hSw; (try dsimp only at hSw); go_simp) <;> (try with_reducible rfl))
          try simp only [Act.put, List.setIfInBounds_toArray, List.set_cons_zero, List.set_cons_succ]
          refine wpAnyH_take (i := 1) (oi := { dst := some 11, op := Op.move (Operand.tmp 3), type := 3, pos := "ref.go:19", after := #[], guard := none }) (v := ?_) rfl (by kernel_rfl) (by kernel_rfl) (by kernel_rfl) (fun _ _ _ h => h) (Or.inl ⟨by rfl, ?_⟩) (by assumption) ?_
          rotate_left
          focus ((intro w hSw; (try dsimp only at hSw); go_simp) <;> (try with_reducible rfl))
          try simp only [Act.put, List.setIfInBounds_toArray, List.set_cons_zero, List.set_cons_succ]
          refine wpAnyH_take (i := 2) (oi := { dst := some 12, op := Op.indexAddr 26 (Operand.tmp 10) (Operand.tmp 11), type := 0, pos := "ref.go:19", after := #[{ on := 0, ground := Ground.data }, { on := 1, ground := Ground.data }], guard := none }) (v := ?_) rfl (by kernel_rfl) (by kernel_rfl) (by kernel_rfl) (fun _ _ _ h => h) (Or.inl ⟨by rfl, ?_⟩) (by assumption) ?_
          rotate_left
          focus ((intro w hSw; (try dsimp only at hSw); go_simp) <;> (try with_reducible rfl))
          try simp only [Act.put, List.setIfInBounds_toArray, List.set_cons_zero, List.set_cons_succ]
          refine wpAnyH_take (i := 3) (oi := { dst := some 13, op := Op.load 30 (Operand.tmp 12), type := 30, pos := "ref.go:19", after := #[{ on := 2, ground := Ground.data }], guard := none }) (v := ?_) rfl (by kernel_rfl) (by kernel_rfl) (by kernel_rfl) (fun _ _ _ h => h) (Or.inl ⟨by rfl, ?_⟩) (by assumption) ?_
          rotate_left
          focus ((intro w hSw; (try dsimp only at hSw); go_simp) <;> (try with_reducible rfl))
          try simp only [Act.put, List.setIfInBounds_toArray, List.set_cons_zero, List.set_cons_succ]
          refine wpAnyH_ready (rs := [4]) (by kernel_rfl) (by simp) ?_
          refine AllReadyH.cons (o := { dst := some 14, op := Op.call { callee := Callee.value (Operand.func 36), args := #[Operand.tmp 13], argTypes := #[30] }, type := 4, pos := "ref.go:19", after := #[{ on := 3, ground := Ground.data }], guard := none }) rfl (fun K hK => ?_) AllReadyH.nil
          go_simp
          (first | (go_at_call 36; refine (HR.out _).mono ?_; rintro e w3 ⟨rfl, hb⟩; have j0 := (hb.cell (p := ⟨g, k * 5, none⟩) hg2).trans k0; have j1 := (hb.cell (p := ⟨g, k * 5 + 1, none⟩) hg2).trans k1; have j2 := (hb.cell (p := ⟨g, k * 5 + 2, none⟩) hg2).trans k2; have j3 := (hb.cell (p := ⟨g, k * 5 + 3, none⟩) hg2).trans k3; have j4 := (hb.cell (p := ⟨g, k * 5 + 4, none⟩) hg2).trans k4; have HB3 := Lib.hid (HBd.out.trans (hb.mono HBd.out.size)); have hg3 := Nat.lt_of_lt_of_le hg2 hb.size))
          go_wp2_with fail
          refine hK.out _ _ (by (try dsimp only); go_keep) (fun hHeld => ?_)
          clear hK K
          try simp only [Act.put, List.setIfInBounds_toArray, List.set_cons_zero, List.set_cons_succ]
          refine wpAnyH_take (i := 5) (oi := { dst := some 15, op := Op.unOp UnOp.not 4 (Operand.tmp 14), type := 4, pos := "ref.go:19", after := #[{ on := 4, ground := Ground.data }], guard := none }) (v := ?_) rfl (by kernel_rfl) (by kernel_rfl) (by kernel_rfl) (fun _ _ _ h => h) (Or.inl ⟨by rfl, ?_⟩) (by assumption) ?_
          rotate_left
          focus ((intro w hSw; (try dsimp only at hSw); go_simp) <;> (try with_reducible rfl))
          try simp only [Act.put, List.setIfInBounds_toArray, List.set_cons_zero, List.set_cons_succ]
          refine wpAnyH_take (i := 6) (oi := { dst := some 16, op := Op.move (Operand.tmp 15), type := 4, pos := "ref.go:19", after := #[{ on := 5, ground := Ground.data }, { on := 4, ground := Ground.chain }], guard := none }) (v := ?_) rfl (by kernel_rfl) (by kernel_rfl) (by kernel_rfl) (fun _ _ _ h => h) (Or.inl ⟨by rfl, ?_⟩) (by assumption) ?_
          rotate_left
          focus ((intro w hSw; (try dsimp only at hSw); go_simp) <;> (try with_reducible rfl))
          try simp only [Act.put, List.setIfInBounds_toArray, List.set_cons_zero, List.set_cons_succ]
          refine wpAnyH_take (i := 7) (oi := { dst := some 17, op := Op.move (Operand.tmp 3), type := 3, pos := "ref.go:19", after := #[{ on := 6, ground := Ground.guard }], guard := some (6, false) }) (v := ?_) rfl (by kernel_rfl) (by kernel_rfl) (by kernel_rfl) (fun _ _ _ h => h) (Or.inl ⟨by rfl, ?_⟩) (by assumption) ?_
          rotate_left
          focus ((intro w hSw; (try dsimp only at hSw); go_simp) <;> (try with_reducible rfl))
          try simp only [Act.put, List.setIfInBounds_toArray, List.set_cons_zero, List.set_cons_succ]
          refine wpAnyH_take (i := 8) (oi := { dst := some 18, op := Op.binOp BinOp.gtr 3 (Operand.tmp 17) (Operand.const (Value.int IntKind.i64 0)) 3, type := 4, pos := "ref.go:19", after := #[{ on := 7, ground := Ground.data }, { on := 6, ground := Ground.guard }], guard := some (6, false) }) (v := ?_) rfl (by kernel_rfl) (by kernel_rfl) (by kernel_rfl) (fun _ _ _ h => h) (Or.inl ⟨by rfl, ?_⟩) (by assumption) ?_
          rotate_left
          focus ((intro w hSw; (try dsimp only at hSw); go_simp) <;> (try with_reducible rfl))
          try simp only [Act.put, List.setIfInBounds_toArray, List.set_cons_zero, List.set_cons_succ]
          refine wpAnyH_take (i := 9) (oi := { dst := some 19, op := Op.move (Operand.tmp 18), type := 4, pos := "ref.go:19", after := #[{ on := 8, ground := Ground.data }, { on := 6, ground := Ground.chain }, { on := 6, ground := Ground.guard }], guard := some (6, false) }) (v := ?_) rfl (by kernel_rfl) (by kernel_rfl) (by kernel_rfl) (fun _ _ _ h => h) (Or.inl ⟨by rfl, ?_⟩) (by assumption) ?_
          rotate_left
          focus ((intro w hSw; (try dsimp only at hSw); go_simp) <;> (try with_reducible rfl))
          try simp only [Act.put, List.setIfInBounds_toArray, List.set_cons_zero, List.set_cons_succ]
          refine wpAnyH_take (i := 10) (oi := { dst := some 20, op := Op.move (Operand.tmp 0), type := 26, pos := "ref.go:19", after := #[{ on := 9, ground := Ground.guard }], guard := some (9, true) }) (v := undef) rfl (by kernel_rfl) (by kernel_rfl) (by kernel_rfl) (fun _ _ _ h => h) (Or.inr ⟨by rfl, rfl⟩) (by assumption) ?_
          try simp only [Act.put, List.setIfInBounds_toArray, List.set_cons_zero, List.set_cons_succ]
          refine wpAnyH_take (i := 11) (oi := { dst := some 21, op := Op.move (Operand.tmp 3), type := 3, pos := "ref.go:19", after := #[{ on := 9, ground := Ground.guard }], guard := some (9, true) }) (v := undef) rfl (by kernel_rfl) (by kernel_rfl) (by kernel_rfl) (fun _ _ _ h => h) (Or.inr ⟨by rfl, rfl⟩) (by assumption) ?_
          try simp only [Act.put, List.setIfInBounds_toArray, List.set_cons_zero, List.set_cons_succ]
          refine wpAnyH_take (i := 12) (oi := { dst := some 22, op := Op.binOp BinOp.sub 3 (Operand.tmp 21) (Operand.const (Value.int IntKind.i64 1)) 3, type := 3, pos := "ref.go:19", after := #[{ on := 11, ground := Ground.data }, { on := 9, ground := Ground.guard }], guard := some (9, true) }) (v := undef) rfl (by kernel_rfl) (by kernel_rfl) (by kernel_rfl) (fun _ _ _ h => h) (Or.inr ⟨by rfl, rfl⟩) (by assumption) ?_
          try simp only [Act.put, List.setIfInBounds_toArray, List.set_cons_zero, List.set_cons_succ]
          refine wpAnyH_take (i := 13) (oi := { dst := some 23, op := Op.indexAddr 26 (Operand.tmp 20) (Operand.tmp 22), type := 0, pos := "ref.go:19", after := #[{ on := 10, ground := Ground.data }, { on := 12, ground := Ground.data }, { on := 9, ground := Ground.guard }], guard := some (9, true) }) (v := undef) rfl (by kernel_rfl) (by kernel_rfl) (by kernel_rfl) (fun _ _ _ h => h) (Or.inr ⟨by rfl, rfl⟩) (by assumption) ?_
          try simp only [Act.put, List.setIfInBounds_toArray, List.set_cons_zero, List.set_cons_succ]
          refine wpAnyH_take (i := 14) (oi := { dst := some 24, op := Op.load 30 (Operand.tmp 23), type := 30, pos := "ref.go:19", after := #[{ on := 13, ground := Ground.data }, { on := 9, ground := Ground.guard }], guard := some (9, true) }) (v := undef) rfl (by kernel_rfl) (by kernel_rfl) (by kernel_rfl) (fun _ _ _ h => h) (Or.inr ⟨by rfl, rfl⟩) (by assumption) ?_
          try simp only [Act.put, List.setIfInBounds_toArray, List.set_cons_zero, List.set_cons_succ]
          refine wpAnyH_take (i := 15) (oi := { dst := some 25, op := Op.move (Operand.tmp 0), type := 26, pos := "ref.go:19", after := #[{ on := 9, ground := Ground.guard }], guard := some (9, true) }) (v := undef) rfl (by kernel_rfl) (by kernel_rfl) (by kernel_rfl) (fun _ _ _ h => h) (Or.inr ⟨by rfl, rfl⟩) (by assumption) ?_
          try simp only [Act.put, List.setIfInBounds_toArray, List.set_cons_zero, List.set_cons_succ]
          refine wpAnyH_take (i := 16) (oi := { dst := some 26, op := Op.move (Operand.tmp 3), type := 3, pos := "ref.go:19", after := #[{ on := 9, ground := Ground.guard }], guard := some (9, true) }) (v := undef) rfl (by kernel_rfl) (by kernel_rfl) (by kernel_rfl) (fun _ _ _ h => h) (Or.inr ⟨by rfl, rfl⟩) (by assumption) ?_
          try simp only [Act.put, List.setIfInBounds_toArray, List.set_cons_zero, List.set_cons_succ]
          refine wpAnyH_take (i := 17) (oi := { dst := some 27, op := Op.indexAddr 26 (Operand.tmp 25) (Operand.tmp 26), type := 0, pos := "ref.go:19", after := #[{ on := 15, ground := Ground.data }, { on := 16, ground := Ground.data }, { on := 9, ground := Ground.guard }], guard := some (9, true) }) (v := undef) rfl (by kernel_rfl) (by kernel_rfl) (by kernel_rfl) (fun _ _ _ h => h) (Or.inr ⟨by rfl, rfl⟩) (by assumption) ?_
          try simp only [Act.put, List.setIfInBounds_toArray, List.set_cons_zero, List.set_cons_succ]
          refine wpAnyH_take (i := 18) (oi := { dst := some 28, op := Op.load 30 (Operand.tmp 27), type := 30, pos := "ref.go:19", after := #[{ on := 17, ground := Ground.data }, { on := 9, ground := Ground.guard }], guard := some (9, true) }) (v := undef) rfl (by kernel_rfl) (by kernel_rfl) (by kernel_rfl) (fun _ _ _ h => h) (Or.inr ⟨by rfl, rfl⟩) (by assumption) ?_
          try simp only [Act.put, List.setIfInBounds_toArray, List.set_cons_zero, List.set_cons_succ]
          refine wpAnyH_take (i := 19) (oi := { dst := some 29, op := Op.call { callee := Callee.value (Operand.func 37), args := #[Operand.tmp 24, Operand.tmp 28], argTypes := #[30, 30] }, type := 4, pos := "ref.go:19", after := #[{ on := 14, ground := Ground.data }, { on := 18, ground := Ground.data }, { on := 9, ground := Ground.chain }, { on := 9, ground := Ground.guard }], guard := some (9, true) }) (v := undef) rfl (by kernel_rfl) (by kernel_rfl) (by kernel_rfl) (fun _ _ _ h => h) (Or.inr ⟨by rfl, rfl⟩) (by assumption) ?_
          try simp only [Act.put, List.setIfInBounds_toArray, List.set_cons_zero, List.set_cons_succ]
          refine wpAnyH_take (i := 20) (oi := { dst := some 30, op := Op.unOp UnOp.not 4 (Operand.tmp 29), type := 4, pos := "ref.go:19", after := #[{ on := 19, ground := Ground.data }, { on := 9, ground := Ground.guard }], guard := some (9, true) }) (v := undef) rfl (by kernel_rfl) (by kernel_rfl) (by kernel_rfl) (fun _ _ _ h => h) (Or.inr ⟨by rfl, rfl⟩) (by assumption) ?_
          try simp only [Act.put, List.setIfInBounds_toArray, List.set_cons_zero, List.set_cons_succ]
          refine wpAnyH_take (i := 21) (oi := { dst := some 31, op := Op.pick (Operand.tmp 19) (Operand.tmp 30) (Operand.const (Value.bool false)), type := 4, pos := "ref.go:19", after := #[{ on := 9, ground := Ground.data }, { on := 20, ground := Ground.data }, { on := 6, ground := Ground.guard }], guard := some (6, false) }) (v := ?_) rfl (by kernel_rfl) (by kernel_rfl) (by kernel_rfl) (fun _ _ _ h => h) (Or.inl ⟨by rfl, ?_⟩) (by assumption) ?_
          rotate_left
          focus ((intro w hSw; (try dsimp only at hSw); go_simp) <;> (try with_reducible rfl))
          try simp only [Act.put, List.setIfInBounds_toArray, List.set_cons_zero, List.set_cons_succ]
          refine wpAnyH_take (i := 22) (oi := { dst := some 32, op := Op.pick (Operand.tmp 16) (Operand.const (Value.bool true)) (Operand.tmp 31), type := 4, pos := "ref.go:19", after := #[{ on := 6, ground := Ground.data }, { on := 21, ground := Ground.data }], guard := none }) (v := ?_) rfl (by kernel_rfl) (by kernel_rfl) (by kernel_rfl) (fun _ _ _ h => h) (Or.inl ⟨by rfl, ?_⟩) (by assumption) ?_
          rotate_left
          focus ((intro w hSw; (try dsimp only at hSw); go_simp) <;> (try with_reducible rfl))
          try simp only [Act.put, List.setIfInBounds_toArray, List.set_cons_zero, List.set_cons_succ]
          refine wpAnyH_done (by kernel_rfl) ?_ _
          go_wp2_with fail
          go_roundw
          case rel => exact ⟨k + 1, by omega, by go_num, HB3, HT⟩
          case measure => simp [intOf]; omega
        · obtain ⟨j, hj⟩ : ∃ j, k = j + 1 := ⟨k - 1, by omega⟩
          have hc2 := HP.out j hj
          rw [show k - 1 = j from by omega, decide_eq_false hkz, Bool.false_or] at HOK
          generalize l.getD j Ar.zero = e' at *
          obtain ⟨s', c', f', p', q'⟩ := e'
          have d0 := hc2.c0; have d1 := hc2.c1; have d2 := hc2.c2; have d3 := hc2.c3; have d4 := hc2.c4
          simp only at d0 d1 d2 d3 d4
          have hm := fun w => HM.out ⟨s', c', f', p', q'⟩ w
          simp only at hm
          generalize lessB ⟨s', c', f', p', q'⟩ ⟨s, c, f, p, q⟩ = lb at *
          have HM2 := Lib.hid hm
          have hj0 : (0 : Int) < (k : Int) := by omega
          have hj0n : 0 < k := by omega
          have hj1 : (j : Int) < (l.length : Int) := by omega
          have hj2 : IntKind.i64.wrap (j : Int) = (j : Int) := IntWalk.i64_in _ (by omega)
          have hj3 : (k : Int) - 1 = (j : Int) := by omega
          clear HM hc2 hm HP hj hkz
          cases lb with
          | true =>
            have hT := HST.out HOK.out
            have HT := Lib.hid hT
            clear hT HST HFA HOK
            go_wp2_with fail
            refine wp_region_held_drew (S := fun w' => w'.cell? ⟨g, k * 5, none⟩ = some (.int .i64 s) ∧ w'.cell? ⟨g, k * 5 + 1, none⟩ = some (.int .i64 c) ∧ w'.cell? ⟨g, k * 5 + 2, none⟩ = some (.int .i64 f) ∧ w'.cell? ⟨g, k * 5 + 3, none⟩ = some (.bool p) ∧ w'.cell? ⟨g, k * 5 + 4, none⟩ = some (.bool q) ∧ w'.cell? ⟨g, j * 5, none⟩ = some (.int .i64 s') ∧ w'.cell? ⟨g, j * 5 + 1, none⟩ = some (.int .i64 c') ∧ w'.cell? ⟨g, j * 5 + 2, none⟩ = some (.int .i64 f') ∧ w'.cell? ⟨g, j * 5 + 3, none⟩ = some (.bool p') ∧ w'.cell? ⟨g, j * 5 + 4, none⟩ = some (.bool q')) (by kernel_rfl) (by (try dsimp only); go_keep) (fun hHeld => ?_)
            refine wpAnyH_take (i := 0) (oi := { dst := some 10, op := Op.move (Operand.tmp 0), type := 26, pos := "ref.go:19", after := #[], guard := none }) (v := ?_) rfl (by kernel_rfl) (by kernel_rfl) (by kernel_rfl) (fun _ _ _ h => h) (Or.inl ⟨by rfl, ?_⟩) (by assumption) ?_
            rotate_left
            focus ((intro w hSw; (try dsimp only at hSw); go_simp) <;> (try with_reducible rfl))
            try simp only [Act.put, List.setIfInBounds_toArray, List.set_cons_zero, List.set_cons_succ]
            refine wpAnyH_take (i := 1) (oi := { dst := some 11, op := Op.move (Operand.tmp 3), type := 3, pos := "ref.go:19", after := #[], guard := none }) (v := ?_) rfl (by kernel_rfl) (by kernel_rfl) (by kernel_rfl) (fun _ _ _ h => h) (Or.inl ⟨by rfl, ?_⟩) (by assumption) ?_
            rotate_left
            focus ((intro w hSw; (try dsimp only at hSw); go_simp) <;> (try with_reducible rfl))
            try simp only [Act.put, List.setIfInBounds_toArray, List.set_cons_zero, List.set_cons_succ]
            refine wpAnyH_take (i := 2) (oi := { dst := some 12, op := Op.indexAddr 26 (Operand.tmp 10) (Operand.tmp 11), type := 0, pos := "ref.go:19", after := #[{ on := 0, ground := Ground.data }, { on := 1, ground := Ground.data }], guard := none }) (v := ?_) rfl (by kernel_rfl) (by kernel_rfl) (by kernel_rfl) (fun _ _ _ h => h) (Or.inl ⟨by rfl, ?_⟩) (by assumption) ?_
            rotate_left
            focus ((intro w hSw; (try dsimp only at hSw); go_simp) <;> (try with_reducible rfl))
            try simp only [Act.put, List.setIfInBounds_toArray, List.set_cons_zero, List.set_cons_succ]
            refine wpAnyH_take (i := 3) (oi := { dst := some 13, op := Op.load 30 (Operand.tmp 12), type := 30, pos := "ref.go:19", after := #[{ on := 2, ground := Ground.data }], guard := none }) (v := ?_) rfl (by kernel_rfl) (by kernel_rfl) (by kernel_rfl) (fun _ _ _ h => h) (Or.inl ⟨by rfl, ?_⟩) (by assumption) ?_
            rotate_left
            focus ((intro w hSw; (try dsimp only at hSw); go_simp) <;> (try with_reducible rfl))
            try simp only [Act.put, List.setIfInBounds_toArray, List.set_cons_zero, List.set_cons_succ]
            refine wpAnyH_ready (rs := [4]) (by kernel_rfl) (by simp) ?_
            refine AllReadyH.cons (o := { dst := some 14, op := Op.call { callee := Callee.value (Operand.func 36), args := #[Operand.tmp 13], argTypes := #[30] }, type := 4, pos := "ref.go:19", after := #[{ on := 3, ground := Ground.data }], guard := none }) rfl (fun K hK => ?_) AllReadyH.nil
            go_simp
            (first | (go_at_call 36; refine (HR.out _).mono ?_; rintro e w3 ⟨rfl, hb⟩; have j0 := (hb.cell (p := ⟨g, k * 5, none⟩) hg2).trans k0; have j1 := (hb.cell (p := ⟨g, k * 5 + 1, none⟩) hg2).trans k1; have j2 := (hb.cell (p := ⟨g, k * 5 + 2, none⟩) hg2).trans k2; have j3 := (hb.cell (p := ⟨g, k * 5 + 3, none⟩) hg2).trans k3; have j4 := (hb.cell (p := ⟨g, k * 5 + 4, none⟩) hg2).trans k4; have i0 := (hb.cell (p := ⟨g, j * 5, none⟩) hg2).trans d0; have i1 := (hb.cell (p := ⟨g, j * 5 + 1, none⟩) hg2).trans d1; have i2 := (hb.cell (p := ⟨g, j * 5 + 2, none⟩) hg2).trans d2; have i3 := (hb.cell (p := ⟨g, j * 5 + 3, none⟩) hg2).trans d3; have i4 := (hb.cell (p := ⟨g, j * 5 + 4, none⟩) hg2).trans d4; have HB3 := Lib.hid (HBd.out.trans (hb.mono HBd.out.size)); have hg3 := Nat.lt_of_lt_of_le hg2 hb.size) | (go_at_call 37; refine (HM2.out _).mono ?_; rintro e w4 ⟨rfl, hb2⟩; have m0 := (hb2.cell (p := ⟨g, k * 5, none⟩) hg3).trans j0; have m1 := (hb2.cell (p := ⟨g, k * 5 + 1, none⟩) hg3).trans j1; have m2 := (hb2.cell (p := ⟨g, k * 5 + 2, none⟩) hg3).trans j2; have m3 := (hb2.cell (p := ⟨g, k * 5 + 3, none⟩) hg3).trans j3; have m4 := (hb2.cell (p := ⟨g, k * 5 + 4, none⟩) hg3).trans j4; have n0 := (hb2.cell (p := ⟨g, j * 5, none⟩) hg3).trans i0; have n1 := (hb2.cell (p := ⟨g, j * 5 + 1, none⟩) hg3).trans i1; have n2 := (hb2.cell (p := ⟨g, j * 5 + 2, none⟩) hg3).trans i2; have n3 := (hb2.cell (p := ⟨g, j * 5 + 3, none⟩) hg3).trans i3; have n4 := (hb2.cell (p := ⟨g, j * 5 + 4, none⟩) hg3).trans i4; have HB4 := Lib.hid (HB3.out.trans (hb2.mono HB3.out.size))))
            go_wp2_with fail
            refine hK.out _ _ (by (try dsimp only); go_keep) (fun hHeld => ?_)
            clear hK K
            try simp only [Act.put, List.setIfInBounds_toArray, List.set_cons_zero, List.set_cons_succ]
            refine wpAnyH_take (i := 5) (oi := { dst := some 15, op := Op.unOp UnOp.not 4 (Operand.tmp 14), type := 4, pos := "ref.go:19", after := #[{ on := 4, ground := Ground.data }], guard := none }) (v := ?_) rfl (by kernel_rfl) (by kernel_rfl) (by kernel_rfl) (fun _ _ _ h => h) (Or.inl ⟨by rfl, ?_⟩) (by assumption) ?_
            rotate_left
            focus ((intro w hSw; (try dsimp only at hSw); go_simp) <;> (try with_reducible rfl))
            try simp only [Act.put, List.setIfInBounds_toArray, List.set_cons_zero, List.set_cons_succ]
            refine wpAnyH_take (i := 6) (oi := { dst := some 16, op := Op.move (Operand.tmp 15), type := 4, pos := "ref.go:19", after := #[{ on := 5, ground := Ground.data }, { on := 4, ground := Ground.chain }], guard := none }) (v := ?_) rfl (by kernel_rfl) (by kernel_rfl) (by kernel_rfl) (fun _ _ _ h => h) (Or.inl ⟨by rfl, ?_⟩) (by assumption) ?_
            rotate_left
            focus ((intro w hSw; (try dsimp only at hSw); go_simp) <;> (try with_reducible rfl))
            try simp only [Act.put, List.setIfInBounds_toArray, List.set_cons_zero, List.set_cons_succ]
            refine wpAnyH_take (i := 7) (oi := { dst := some 17, op := Op.move (Operand.tmp 3), type := 3, pos := "ref.go:19", after := #[{ on := 6, ground := Ground.guard }], guard := some (6, false) }) (v := ?_) rfl (by kernel_rfl) (by kernel_rfl) (by kernel_rfl) (fun _ _ _ h => h) (Or.inl ⟨by rfl, ?_⟩) (by assumption) ?_
            rotate_left
            focus ((intro w hSw; (try dsimp only at hSw); go_simp) <;> (try with_reducible rfl))
            try simp only [Act.put, List.setIfInBounds_toArray, List.set_cons_zero, List.set_cons_succ]
            refine wpAnyH_take (i := 8) (oi := { dst := some 18, op := Op.binOp BinOp.gtr 3 (Operand.tmp 17) (Operand.const (Value.int IntKind.i64 0)) 3, type := 4, pos := "ref.go:19", after := #[{ on := 7, ground := Ground.data }, { on := 6, ground := Ground.guard }], guard := some (6, false) }) (v := ?_) rfl (by kernel_rfl) (by kernel_rfl) (by kernel_rfl) (fun _ _ _ h => h) (Or.inl ⟨by rfl, ?_⟩) (by assumption) ?_
            rotate_left
            focus ((intro w hSw; (try dsimp only at hSw); go_simp) <;> (try with_reducible rfl))
            try simp only [Act.put, List.setIfInBounds_toArray, List.set_cons_zero, List.set_cons_succ]
            refine wpAnyH_take (i := 9) (oi := { dst := some 19, op := Op.move (Operand.tmp 18), type := 4, pos := "ref.go:19", after := #[{ on := 8, ground := Ground.data }, { on := 6, ground := Ground.chain }, { on := 6, ground := Ground.guard }], guard := some (6, false) }) (v := ?_) rfl (by kernel_rfl) (by kernel_rfl) (by kernel_rfl) (fun _ _ _ h => h) (Or.inl ⟨by rfl, ?_⟩) (by assumption) ?_
            rotate_left
            focus ((intro w hSw; (try dsimp only at hSw); go_simp) <;> (try with_reducible rfl))
            try simp only [Act.put, List.setIfInBounds_toArray, List.set_cons_zero, List.set_cons_succ]
            refine wpAnyH_take (i := 10) (oi := { dst := some 20, op := Op.move (Operand.tmp 0), type := 26, pos := "ref.go:19", after := #[{ on := 9, ground := Ground.guard }], guard := some (9, true) }) (v := ?_) rfl (by kernel_rfl) (by kernel_rfl) (by kernel_rfl) (fun _ _ _ h => h) (Or.inl ⟨by rfl, ?_⟩) (by assumption) ?_
            rotate_left
            focus ((intro w hSw; (try dsimp only at hSw); go_simp) <;> (try with_reducible rfl))
            try simp only [Act.put, List.setIfInBounds_toArray, List.set_cons_zero, List.set_cons_succ]
            refine wpAnyH_take (i := 11) (oi := { dst := some 21, op := Op.move (Operand.tmp 3), type := 3, pos := "ref.go:19", after := #[{ on := 9, ground := Ground.guard }], guard := some (9, true) }) (v := ?_) rfl (by kernel_rfl) (by kernel_rfl) (by kernel_rfl) (fun _ _ _ h => h) (Or.inl ⟨by rfl, ?_⟩) (by assumption) ?_
            rotate_left
            focus ((intro w hSw; (try dsimp only at hSw); go_simp) <;> (try with_reducible rfl))
            try simp only [Act.put, List.setIfInBounds_toArray, List.set_cons_zero, List.set_cons_succ]
            refine wpAnyH_take (i := 12) (oi := { dst := some 22, op := Op.binOp BinOp.sub 3 (Operand.tmp 21) (Operand.const (Value.int IntKind.i64 1)) 3, type := 3, pos := "ref.go:19", after := #[{ on := 11, ground := Ground.data }, { on := 9, ground := Ground.guard }], guard := some (9, true) }) (v := ?_) rfl (by kernel_rfl) (by kernel_rfl) (by kernel_rfl) (fun _ _ _ h => h) (Or.inl ⟨by rfl, ?_⟩) (by assumption) ?_
            rotate_left
            focus ((intro w hSw; (try dsimp only at hSw); go_simp) <;> (try with_reducible rfl))
            try simp only [Act.put, List.setIfInBounds_toArray, List.set_cons_zero, List.set_cons_succ]
            refine wpAnyH_take (i := 13) (oi := { dst := some 23, op := Op.indexAddr 26 (Operand.tmp 20) (Operand.tmp 22), type := 0, pos := "ref.go:19", after := #[{ on := 10, ground := Ground.data }, { on := 12, ground := Ground.data }, { on := 9, ground := Ground.guard }], guard := some (9, true) }) (v := ?_) rfl (by kernel_rfl) (by kernel_rfl) (by kernel_rfl) (fun _ _ _ h => h) (Or.inl ⟨by rfl, ?_⟩) (by assumption) ?_
            rotate_left
            focus ((intro w hSw; (try dsimp only at hSw); go_simp) <;> (try with_reducible rfl))
            try simp only [Act.put, List.setIfInBounds_toArray, List.set_cons_zero, List.set_cons_succ]
            refine wpAnyH_take (i := 14) (oi := { dst := some 24, op := Op.load 30 (Operand.tmp 23), type := 30, pos := "ref.go:19", after := #[{ on := 13, ground := Ground.data }, { on := 9, ground := Ground.guard }], guard := some (9, true) }) (v := ?_) rfl (by kernel_rfl) (by kernel_rfl) (by kernel_rfl) (fun _ _ _ h => h) (Or.inl ⟨by rfl, ?_⟩) (by assumption) ?_
            rotate_left
            focus ((intro w hSw; (try dsimp only at hSw); go_simp) <;> (try with_reducible rfl))
            try simp only [Act.put, List.setIfInBounds_toArray, List.set_cons_zero, List.set_cons_succ]
            refine wpAnyH_take (i := 15) (oi := { dst := some 25, op := Op.move (Operand.tmp 0), type := 26, pos := "ref.go:19", after := #[{ on := 9, ground := Ground.guard }], guard := some (9, true) }) (v := ?_) rfl (by kernel_rfl) (by kernel_rfl) (by kernel_rfl) (fun _ _ _ h => h) (Or.inl ⟨by rfl, ?_⟩) (by assumption) ?_
            rotate_left
            focus ((intro w hSw; (try dsimp only at hSw); go_simp) <;> (try with_reducible rfl))
            try simp only [Act.put, List.setIfInBounds_toArray, List.set_cons_zero, List.set_cons_succ]
            refine wpAnyH_take (i := 16) (oi := { dst := some 26, op := Op.move (Operand.tmp 3), type := 3, pos := "ref.go:19", after := #[{ on := 9, ground := Ground.guard }], guard := some (9, true) }) (v := ?_) rfl (by kernel_rfl) (by kernel_rfl) (by kernel_rfl) (fun _ _ _ h => h) (Or.inl ⟨by rfl, ?_⟩) (by assumption) ?_
            rotate_left
            focus ((intro w hSw; (try dsimp only at hSw); go_simp) <;> (try with_reducible rfl))
            try simp only [Act.put, List.setIfInBounds_toArray, List.set_cons_zero, List.set_cons_succ]
            refine wpAnyH_take (i := 17) (oi := { dst := some 27, op := Op.indexAddr 26 (Operand.tmp 25) (Operand.tmp 26), type := 0, pos := "ref.go:19", after := #[{ on := 15, ground := Ground.data }, { on := 16, ground := Ground.data }, { on := 9, ground := Ground.guard }], guard := some (9, true) }) (v := ?_) rfl (by kernel_rfl) (by kernel_rfl) (by kernel_rfl) (fun _ _ _ h => h) (Or.inl ⟨by rfl, ?_⟩) (by assumption) ?_
            rotate_left
            focus ((intro w hSw; (try dsimp only at hSw); go_simp) <;> (try with_reducible rfl))
            try simp only [Act.put, List.setIfInBounds_toArray, List.set_cons_zero, List.set_cons_succ]
            refine wpAnyH_take (i := 18) (oi := { dst := some 28, op := Op.load 30 (Operand.tmp 27), type := 30, pos := "ref.go:19", after := #[{ on := 17, ground := Ground.data }, { on := 9, ground := Ground.guard }], guard := some (9, true) }) (v := ?_) rfl (by kernel_rfl) (by kernel_rfl) (by kernel_rfl) (fun _ _ _ h => h) (Or.inl ⟨by rfl, ?_⟩) (by assumption) ?_
            rotate_left
            focus ((intro w hSw; (try dsimp only at hSw); go_simp) <;> (try with_reducible rfl))
            try simp only [Act.put, List.setIfInBounds_toArray, List.set_cons_zero, List.set_cons_succ]
            refine wpAnyH_ready (rs := [19]) (by kernel_rfl) (by simp) ?_
            refine AllReadyH.cons (o := { dst := some 29, op := Op.call { callee := Callee.value (Operand.func 37), args := #[Operand.tmp 24, Operand.tmp 28], argTypes := #[30, 30] }, type := 4, pos := "ref.go:19", after := #[{ on := 14, ground := Ground.data }, { on := 18, ground := Ground.data }, { on := 9, ground := Ground.chain }, { on := 9, ground := Ground.guard }], guard := some (9, true) }) rfl (fun K hK => ?_) AllReadyH.nil
            go_simp
            (first | (go_at_call 36; refine (HR.out _).mono ?_; rintro e w3 ⟨rfl, hb⟩; have j0 := (hb.cell (p := ⟨g, k * 5, none⟩) hg2).trans k0; have j1 := (hb.cell (p := ⟨g, k * 5 + 1, none⟩) hg2).trans k1; have j2 := (hb.cell (p := ⟨g, k * 5 + 2, none⟩) hg2).trans k2; have j3 := (hb.cell (p := ⟨g, k * 5 + 3, none⟩) hg2).trans k3; have j4 := (hb.cell (p := ⟨g, k * 5 + 4, none⟩) hg2).trans k4; have i0 := (hb.cell (p := ⟨g, j * 5, none⟩) hg2).trans d0; have i1 := (hb.cell (p := ⟨g, j * 5 + 1, none⟩) hg2).trans d1; have i2 := (hb.cell (p := ⟨g, j * 5 + 2, none⟩) hg2).trans d2; have i3 := (hb.cell (p := ⟨g, j * 5 + 3, none⟩) hg2).trans d3; have i4 := (hb.cell (p := ⟨g, j * 5 + 4, none⟩) hg2).trans d4; have HB3 := Lib.hid (HBd.out.trans (hb.mono HBd.out.size)); have hg3 := Nat.lt_of_lt_of_le hg2 hb.size) | (go_at_call 37; refine (HM2.out _).mono ?_; rintro e w4 ⟨rfl, hb2⟩; have m0 := (hb2.cell (p := ⟨g, k * 5, none⟩) hg3).trans j0; have m1 := (hb2.cell (p := ⟨g, k * 5 + 1, none⟩) hg3).trans j1; have m2 := (hb2.cell (p := ⟨g, k * 5 + 2, none⟩) hg3).trans j2; have m3 := (hb2.cell (p := ⟨g, k * 5 + 3, none⟩) hg3).trans j3; have m4 := (hb2.cell (p := ⟨g, k * 5 + 4, none⟩) hg3).trans j4; have n0 := (hb2.cell (p := ⟨g, j * 5, none⟩) hg3).trans i0; have n1 := (hb2.cell (p := ⟨g, j * 5 + 1, none⟩) hg3).trans i1; have n2 := (hb2.cell (p := ⟨g, j * 5 + 2, none⟩) hg3).trans i2; have n3 := (hb2.cell (p := ⟨g, j * 5 + 3, none⟩) hg3).trans i3; have n4 := (hb2.cell (p := ⟨g, j * 5 + 4, none⟩) hg3).trans i4; have HB4 := Lib.hid (HB3.out.trans (hb2.mono HB3.out.size))))
            go_wp2_with fail
            refine hK.out _ _ (by (try dsimp only); go_keep) (fun hHeld => ?_)
            clear hK K
            try simp only [Act.put, List.setIfInBounds_toArray, List.set_cons_zero, List.set_cons_succ]
            refine wpAnyH_take (i := 20) (oi := { dst := some 30, op := Op.unOp UnOp.not 4 (Operand.tmp 29), type := 4, pos := "ref.go:19", after := #[{ on := 19, ground := Ground.data }, { on := 9, ground := Ground.guard }], guard := some (9, true) }) (v := ?_) rfl (by kernel_rfl) (by kernel_rfl) (by kernel_rfl) (fun _ _ _ h => h) (Or.inl ⟨by rfl, ?_⟩) (by assumption) ?_
            rotate_left
            focus ((intro w hSw; (try dsimp only at hSw); go_simp) <;> (try with_reducible rfl))
            try simp only [Act.put, List.setIfInBounds_toArray, List.set_cons_zero, List.set_cons_succ]
            refine wpAnyH_take (i := 21) (oi := { dst := some 31, op := Op.pick (Operand.tmp 19) (Operand.tmp 30) (Operand.const (Value.bool false)), type := 4, pos := "ref.go:19", after := #[{ on := 9, ground := Ground.data }, { on := 20, ground := Ground.data }, { on := 6, ground := Ground.guard }], guard := some (6, false) }) (v := ?_) rfl (by kernel_rfl) (by kernel_rfl) (by kernel_rfl) (fun _ _ _ h => h) (Or.inl ⟨by rfl, ?_⟩) (by assumption) ?_
            rotate_left
            focus ((intro w hSw; (try dsimp only at hSw); go_simp) <;> (try with_reducible rfl))
            try simp only [Act.put, List.setIfInBounds_toArray, List.set_cons_zero, List.set_cons_succ]
            refine wpAnyH_take (i := 22) (oi := { dst := some 32, op := Op.pick (Operand.tmp 16) (Operand.const (Value.bool true)) (Operand.tmp 31), type := 4, pos := "ref.go:19", after := #[{ on := 6, ground := Ground.data }, { on := 21, ground := Ground.data }], guard := none }) (v := ?_) rfl (by kernel_rfl) (by kernel_rfl) (by kernel_rfl) (fun _ _ _ h => h) (Or.inl ⟨by rfl, ?_⟩) (by assumption) ?_
            rotate_left
            focus ((intro w hSw; (try dsimp only at hSw); go_simp) <;> (try with_reducible rfl))
            try simp only [Act.put, List.setIfInBounds_toArray, List.set_cons_zero, List.set_cons_succ]
            refine wpAnyH_done (by kernel_rfl) ?_ _
            go_wp2_with fail
            go_roundw
            case rel => exact ⟨k + 1, by omega, by go_num, HB4, HT⟩
            case measure => simp [intOf]; omega
          | false =>
            have hF := HFA.out HOK.out
            clear HST HFA HOK
            go_wp2_with fail
            refine wp_region_held_drew (S := fun w' => w'.cell? ⟨g, k * 5, none⟩ = some (.int .i64 s) ∧ w'.cell? ⟨g, k * 5 + 1, none⟩ = some (.int .i64 c) ∧ w'.cell? ⟨g, k * 5 + 2, none⟩ = some (.int .i64 f) ∧ w'.cell? ⟨g, k * 5 + 3, none⟩ = some (.bool p) ∧ w'.cell? ⟨g, k * 5 + 4, none⟩ = some (.bool q) ∧ w'.cell? ⟨g, j * 5, none⟩ = some (.int .i64 s') ∧ w'.cell? ⟨g, j * 5 + 1, none⟩ = some (.int .i64 c') ∧ w'.cell? ⟨g, j * 5 + 2, none⟩ = some (.int .i64 f') ∧ w'.cell? ⟨g, j * 5 + 3, none⟩ = some (.bool p') ∧ w'.cell? ⟨g, j * 5 + 4, none⟩ = some (.bool q')) (by kernel_rfl) (by (try dsimp only); go_keep) (fun hHeld => ?_)
            refine wpAnyH_take (i := 0) (oi := { dst := some 10, op := Op.move (Operand.tmp 0), type := 26, pos := "ref.go:19", after := #[], guard := none }) (v := ?_) rfl (by kernel_rfl) (by kernel_rfl) (by kernel_rfl) (fun _ _ _ h => h) (Or.inl ⟨by rfl, ?_⟩) (by assumption) ?_
            rotate_left
            focus ((intro w hSw; (try dsimp only at hSw); go_simp) <;> (try with_reducible rfl))
            try simp only [Act.put, List.setIfInBounds_toArray, List.set_cons_zero, List.set_cons_succ]
            refine wpAnyH_take (i := 1) (oi := { dst := some 11, op := Op.move (Operand.tmp 3), type := 3, pos := "ref.go:19", after := #[], guard := none }) (v := ?_) rfl (by kernel_rfl) (by kernel_rfl) (by kernel_rfl) (fun _ _ _ h => h) (Or.inl ⟨by rfl, ?_⟩) (by assumption) ?_
            rotate_left
            focus ((intro w hSw; (try dsimp only at hSw); go_simp) <;> (try with_reducible rfl))
            try simp only [Act.put, List.setIfInBounds_toArray, List.set_cons_zero, List.set_cons_succ]
            refine wpAnyH_take (i := 2) (oi := { dst := some 12, op := Op.indexAddr 26 (Operand.tmp 10) (Operand.tmp 11), type := 0, pos := "ref.go:19", after := #[{ on := 0, ground := Ground.data }, { on := 1, ground := Ground.data }], guard := none }) (v := ?_) rfl (by kernel_rfl) (by kernel_rfl) (by kernel_rfl) (fun _ _ _ h => h) (Or.inl ⟨by rfl, ?_⟩) (by assumption) ?_
            rotate_left
            focus ((intro w hSw; (try dsimp only at hSw); go_simp) <;> (try with_reducible rfl))
            try simp only [Act.put, List.setIfInBounds_toArray, List.set_cons_zero, List.set_cons_succ]
            refine wpAnyH_take (i := 3) (oi := { dst := some 13, op := Op.load 30 (Operand.tmp 12), type := 30, pos := "ref.go:19", after := #[{ on := 2, ground := Ground.data }], guard := none }) (v := ?_) rfl (by kernel_rfl) (by kernel_rfl) (by kernel_rfl) (fun _ _ _ h => h) (Or.inl ⟨by rfl, ?_⟩) (by assumption) ?_
            rotate_left
            focus ((intro w hSw; (try dsimp only at hSw); go_simp) <;> (try with_reducible rfl))
            try simp only [Act.put, List.setIfInBounds_toArray, List.set_cons_zero, List.set_cons_succ]
            refine wpAnyH_ready (rs := [4]) (by kernel_rfl) (by simp) ?_
            refine AllReadyH.cons (o := { dst := some 14, op := Op.call { callee := Callee.value (Operand.func 36), args := #[Operand.tmp 13], argTypes := #[30] }, type := 4, pos := "ref.go:19", after := #[{ on := 3, ground := Ground.data }], guard := none }) rfl (fun K hK => ?_) AllReadyH.nil
            go_simp
            (first | (go_at_call 36; refine (HR.out _).mono ?_; rintro e w3 ⟨rfl, hb⟩; have j0 := (hb.cell (p := ⟨g, k * 5, none⟩) hg2).trans k0; have j1 := (hb.cell (p := ⟨g, k * 5 + 1, none⟩) hg2).trans k1; have j2 := (hb.cell (p := ⟨g, k * 5 + 2, none⟩) hg2).trans k2; have j3 := (hb.cell (p := ⟨g, k * 5 + 3, none⟩) hg2).trans k3; have j4 := (hb.cell (p := ⟨g, k * 5 + 4, none⟩) hg2).trans k4; have i0 := (hb.cell (p := ⟨g, j * 5, none⟩) hg2).trans d0; have i1 := (hb.cell (p := ⟨g, j * 5 + 1, none⟩) hg2).trans d1; have i2 := (hb.cell (p := ⟨g, j * 5 + 2, none⟩) hg2).trans d2; have i3 := (hb.cell (p := ⟨g, j * 5 + 3, none⟩) hg2).trans d3; have i4 := (hb.cell (p := ⟨g, j * 5 + 4, none⟩) hg2).trans d4; have HB3 := Lib.hid (HBd.out.trans (hb.mono HBd.out.size)); have hg3 := Nat.lt_of_lt_of_le hg2 hb.size) | (go_at_call 37; refine (HM2.out _).mono ?_; rintro e w4 ⟨rfl, hb2⟩; have m0 := (hb2.cell (p := ⟨g, k * 5, none⟩) hg3).trans j0; have m1 := (hb2.cell (p := ⟨g, k * 5 + 1, none⟩) hg3).trans j1; have m2 := (hb2.cell (p := ⟨g, k * 5 + 2, none⟩) hg3).trans j2; have m3 := (hb2.cell (p := ⟨g, k * 5 + 3, none⟩) hg3).trans j3; have m4 := (hb2.cell (p := ⟨g, k * 5 + 4, none⟩) hg3).trans j4; have n0 := (hb2.cell (p := ⟨g, j * 5, none⟩) hg3).trans i0; have n1 := (hb2.cell (p := ⟨g, j * 5 + 1, none⟩) hg3).trans i1; have n2 := (hb2.cell (p := ⟨g, j * 5 + 2, none⟩) hg3).trans i2; have n3 := (hb2.cell (p := ⟨g, j * 5 + 3, none⟩) hg3).trans i3; have n4 := (hb2.cell (p := ⟨g, j * 5 + 4, none⟩) hg3).trans i4; have HB4 := Lib.hid (HB3.out.trans (hb2.mono HB3.out.size))))
            go_wp2_with fail
            refine hK.out _ _ (by (try dsimp only); go_keep) (fun hHeld => ?_)
            clear hK K
            try simp only [Act.put, List.setIfInBounds_toArray, List.set_cons_zero, List.set_cons_succ]
            refine wpAnyH_take (i := 5) (oi := { dst := some 15, op := Op.unOp UnOp.not 4 (Operand.tmp 14), type := 4, pos := "ref.go:19", after := #[{ on := 4, ground := Ground.data }], guard := none }) (v := ?_) rfl (by kernel_rfl) (by kernel_rfl) (by kernel_rfl) (fun _ _ _ h => h) (Or.inl ⟨by rfl, ?_⟩) (by assumption) ?_
            rotate_left
            focus ((intro w hSw; (try dsimp only at hSw); go_simp) <;> (try with_reducible rfl))
            try simp only [Act.put, List.setIfInBounds_toArray, List.set_cons_zero, List.set_cons_succ]
            refine wpAnyH_take (i := 6) (oi := { dst := some 16, op := Op.move (Operand.tmp 15), type := 4, pos := "ref.go:19", after := #[{ on := 5, ground := Ground.data }, { on := 4, ground := Ground.chain }], guard := none }) (v := ?_) rfl (by kernel_rfl) (by kernel_rfl) (by kernel_rfl) (fun _ _ _ h => h) (Or.inl ⟨by rfl, ?_⟩) (by assumption) ?_
            rotate_left
            focus ((intro w hSw; (try dsimp only at hSw); go_simp) <;> (try with_reducible rfl))
            try simp only [Act.put, List.setIfInBounds_toArray, List.set_cons_zero, List.set_cons_succ]
            refine wpAnyH_take (i := 7) (oi := { dst := some 17, op := Op.move (Operand.tmp 3), type := 3, pos := "ref.go:19", after := #[{ on := 6, ground := Ground.guard }], guard := some (6, false) }) (v := ?_) rfl (by kernel_rfl) (by kernel_rfl) (by kernel_rfl) (fun _ _ _ h => h) (Or.inl ⟨by rfl, ?_⟩) (by assumption) ?_
            rotate_left
            focus ((intro w hSw; (try dsimp only at hSw); go_simp) <;> (try with_reducible rfl))
            try simp only [Act.put, List.setIfInBounds_toArray, List.set_cons_zero, List.set_cons_succ]
            refine wpAnyH_take (i := 8) (oi := { dst := some 18, op := Op.binOp BinOp.gtr 3 (Operand.tmp 17) (Operand.const (Value.int IntKind.i64 0)) 3, type := 4, pos := "ref.go:19", after := #[{ on := 7, ground := Ground.data }, { on := 6, ground := Ground.guard }], guard := some (6, false) }) (v := ?_) rfl (by kernel_rfl) (by kernel_rfl) (by kernel_rfl) (fun _ _ _ h => h) (Or.inl ⟨by rfl, ?_⟩) (by assumption) ?_
            rotate_left
            focus ((intro w hSw; (try dsimp only at hSw); go_simp) <;> (try with_reducible rfl))
            try simp only [Act.put, List.setIfInBounds_toArray, List.set_cons_zero, List.set_cons_succ]
            refine wpAnyH_take (i := 9) (oi := { dst := some 19, op := Op.move (Operand.tmp 18), type := 4, pos := "ref.go:19", after := #[{ on := 8, ground := Ground.data }, { on := 6, ground := Ground.chain }, { on := 6, ground := Ground.guard }], guard := some (6, false) }) (v := ?_) rfl (by kernel_rfl) (by kernel_rfl) (by kernel_rfl) (fun _ _ _ h => h) (Or.inl ⟨by rfl, ?_⟩) (by assumption) ?_
            rotate_left
            focus ((intro w hSw; (try dsimp only at hSw); go_simp) <;> (try with_reducible rfl))
            try simp only [Act.put, List.setIfInBounds_toArray, List.set_cons_zero, List.set_cons_succ]
            refine wpAnyH_take (i := 10) (oi := { dst := some 20, op := Op.move (Operand.tmp 0), type := 26, pos := "ref.go:19", after := #[{ on := 9, ground := Ground.guard }], guard := some (9, true) }) (v := ?_) rfl (by kernel_rfl) (by kernel_rfl) (by kernel_rfl) (fun _ _ _ h => h) (Or.inl ⟨by rfl, ?_⟩) (by assumption) ?_
            rotate_left
            focus ((intro w hSw; (try dsimp only at hSw); go_simp) <;> (try with_reducible rfl))
            try simp only [Act.put, List.setIfInBounds_toArray, List.set_cons_zero, List.set_cons_succ]
            refine wpAnyH_take (i := 11) (oi := { dst := some 21, op := Op.move (Operand.tmp 3), type := 3, pos := "ref.go:19", after := #[{ on := 9, ground := Ground.guard }], guard := some (9, true) }) (v := ?_) rfl (by kernel_rfl) (by kernel_rfl) (by kernel_rfl) (fun _ _ _ h => h) (Or.inl ⟨by rfl, ?_⟩) (by assumption) ?_
            rotate_left
            focus ((intro w hSw; (try dsimp only at hSw); go_simp) <;> (try with_reducible rfl))
            try simp only [Act.put, List.setIfInBounds_toArray, List.set_cons_zero, List.set_cons_succ]
            refine wpAnyH_take (i := 12) (oi := { dst := some 22, op := Op.binOp BinOp.sub 3 (Operand.tmp 21) (Operand.const (Value.int IntKind.i64 1)) 3, type := 3, pos := "ref.go:19", after := #[{ on := 11, ground := Ground.data }, { on := 9, ground := Ground.guard }], guard := some (9, true) }) (v := ?_) rfl (by kernel_rfl) (by kernel_rfl) (by kernel_rfl) (fun _ _ _ h => h) (Or.inl ⟨by rfl, ?_⟩) (by assumption) ?_
            rotate_left
            focus ((intro w hSw; (try dsimp only at hSw); go_simp) <;> (try with_reducible rfl))
            try simp only [Act.put, List.setIfInBounds_toArray, List.set_cons_zero, List.set_cons_succ]
            refine wpAnyH_take (i := 13) (oi := { dst := some 23, op := Op.indexAddr 26 (Operand.tmp 20) (Operand.tmp 22), type := 0, pos := "ref.go:19", after := #[{ on := 10, ground := Ground.data }, { on := 12, ground := Ground.data }, { on := 9, ground := Ground.guard }], guard := some (9, true) }) (v := ?_) rfl (by kernel_rfl) (by kernel_rfl) (by kernel_rfl) (fun _ _ _ h => h) (Or.inl ⟨by rfl, ?_⟩) (by assumption) ?_
            rotate_left
            focus ((intro w hSw; (try dsimp only at hSw); go_simp) <;> (try with_reducible rfl))
            try simp only [Act.put, List.setIfInBounds_toArray, List.set_cons_zero, List.set_cons_succ]
            refine wpAnyH_take (i := 14) (oi := { dst := some 24, op := Op.load 30 (Operand.tmp 23), type := 30, pos := "ref.go:19", after := #[{ on := 13, ground := Ground.data }, { on := 9, ground := Ground.guard }], guard := some (9, true) }) (v := ?_) rfl (by kernel_rfl) (by kernel_rfl) (by kernel_rfl) (fun _ _ _ h => h) (Or.inl ⟨by rfl, ?_⟩) (by assumption) ?_
            rotate_left
            focus ((intro w hSw; (try dsimp only at hSw); go_simp) <;> (try with_reducible rfl))
            try simp only [Act.put, List.setIfInBounds_toArray, List.set_cons_zero, List.set_cons_succ]
            refine wpAnyH_take (i := 15) (oi := { dst := some 25, op := Op.move (Operand.tmp 0), type := 26, pos := "ref.go:19", after := #[{ on := 9, ground := Ground.guard }], guard := some (9, true) }) (v := ?_) rfl (by kernel_rfl) (by kernel_rfl) (by kernel_rfl) (fun _ _ _ h => h) (Or.inl ⟨by rfl, ?_⟩) (by assumption) ?_
            rotate_left
            focus ((intro w hSw; (try dsimp only at hSw); go_simp) <;> (try with_reducible rfl))
            try simp only [Act.put, List.setIfInBounds_toArray, List.set_cons_zero, List.set_cons_succ]
            refine wpAnyH_take (i := 16) (oi := { dst := some 26, op := Op.move (Operand.tmp 3), type := 3, pos := "ref.go:19", after := #[{ on := 9, ground := Ground.guard }], guard := some (9, true) }) (v := ?_) rfl (by kernel_rfl) (by kernel_rfl) (by kernel_rfl) (fun _ _ _ h => h) (Or.inl ⟨by rfl, ?_⟩) (by assumption) ?_
            rotate_left
            focus ((intro w hSw; (try dsimp only at hSw); go_simp) <;> (try with_reducible rfl))
            try simp only [Act.put, List.setIfInBounds_toArray, List.set_cons_zero, List.set_cons_succ]
            refine wpAnyH_take (i := 17) (oi := { dst := some 27, op := Op.indexAddr 26 (Operand.tmp 25) (Operand.tmp 26), type := 0, pos := "ref.go:19", after := #[{ on := 15, ground := Ground.data }, { on := 16, ground := Ground.data }, { on := 9, ground := Ground.guard }], guard := some (9, true) }) (v := ?_) rfl (by kernel_rfl) (by kernel_rfl) (by kernel_rfl) (fun _ _ _ h => h) (Or.inl ⟨by rfl, ?_⟩) (by assumption) ?_
            rotate_left
            focus ((intro w hSw; (try dsimp only at hSw); go_simp) <;> (try with_reducible rfl))
            try simp only [Act.put, List.setIfInBounds_toArray, List.set_cons_zero, List.set_cons_succ]
            refine wpAnyH_take (i := 18) (oi := { dst := some 28, op := Op.load 30 (Operand.tmp 27), type := 30, pos := "ref.go:19", after := #[{ on := 17, ground := Ground.data }, { on := 9, ground := Ground.guard }], guard := some (9, true) }) (v := ?_) rfl (by kernel_rfl) (by kernel_rfl) (by kernel_rfl) (fun _ _ _ h => h) (Or.inl ⟨by rfl, ?_⟩) (by assumption) ?_
            rotate_left
            focus ((intro w hSw; (try dsimp only at hSw); go_simp) <;> (try with_reducible rfl))
            try simp only [Act.put, List.setIfInBounds_toArray, List.set_cons_zero, List.set_cons_succ]
            refine wpAnyH_ready (rs := [19]) (by kernel_rfl) (by simp) ?_
            refine AllReadyH.cons (o := { dst := some 29, op := Op.call { callee := Callee.value (Operand.func 37), args := #[Operand.tmp 24, Operand.tmp 28], argTypes := #[30, 30] }, type := 4, pos := "ref.go:19", after := #[{ on := 14, ground := Ground.data }, { on := 18, ground := Ground.data }, { on := 9, ground := Ground.chain }, { on := 9, ground := Ground.guard }], guard := some (9, true) }) rfl (fun K hK => ?_) AllReadyH.nil
            go_simp
            (first | (go_at_call 36; refine (HR.out _).mono ?_; rintro e w3 ⟨rfl, hb⟩; have j0 := (hb.cell (p := ⟨g, k * 5, none⟩) hg2).trans k0; have j1 := (hb.cell (p := ⟨g, k * 5 + 1, none⟩) hg2).trans k1; have j2 := (hb.cell (p := ⟨g, k * 5 + 2, none⟩) hg2).trans k2; have j3 := (hb.cell (p := ⟨g, k * 5 + 3, none⟩) hg2).trans k3; have j4 := (hb.cell (p := ⟨g, k * 5 + 4, none⟩) hg2).trans k4; have i0 := (hb.cell (p := ⟨g, j * 5, none⟩) hg2).trans d0; have i1 := (hb.cell (p := ⟨g, j * 5 + 1, none⟩) hg2).trans d1; have i2 := (hb.cell (p := ⟨g, j * 5 + 2, none⟩) hg2).trans d2; have i3 := (hb.cell (p := ⟨g, j * 5 + 3, none⟩) hg2).trans d3; have i4 := (hb.cell (p := ⟨g, j * 5 + 4, none⟩) hg2).trans d4; have HB3 := Lib.hid (HBd.out.trans (hb.mono HBd.out.size)); have hg3 := Nat.lt_of_lt_of_le hg2 hb.size) | (go_at_call 37; refine (HM2.out _).mono ?_; rintro e w4 ⟨rfl, hb2⟩; have m0 := (hb2.cell (p := ⟨g, k * 5, none⟩) hg3).trans j0; have m1 := (hb2.cell (p := ⟨g, k * 5 + 1, none⟩) hg3).trans j1; have m2 := (hb2.cell (p := ⟨g, k * 5 + 2, none⟩) hg3).trans j2; have m3 := (hb2.cell (p := ⟨g, k * 5 + 3, none⟩) hg3).trans j3; have m4 := (hb2.cell (p := ⟨g, k * 5 + 4, none⟩) hg3).trans j4; have n0 := (hb2.cell (p := ⟨g, j * 5, none⟩) hg3).trans i0; have n1 := (hb2.cell (p := ⟨g, j * 5 + 1, none⟩) hg3).trans i1; have n2 := (hb2.cell (p := ⟨g, j * 5 + 2, none⟩) hg3).trans i2; have n3 := (hb2.cell (p := ⟨g, j * 5 + 3, none⟩) hg3).trans i3; have n4 := (hb2.cell (p := ⟨g, j * 5 + 4, none⟩) hg3).trans i4; have HB4 := Lib.hid (HB3.out.trans (hb2.mono HB3.out.size))))
            go_wp2_with fail
            refine hK.out _ _ (by (try dsimp only); go_keep) (fun hHeld => ?_)
            clear hK K
            try simp only [Act.put, List.setIfInBounds_toArray, List.set_cons_zero, List.set_cons_succ]
            refine wpAnyH_take (i := 20) (oi := { dst := some 30, op := Op.unOp UnOp.not 4 (Operand.tmp 29), type := 4, pos := "ref.go:19", after := #[{ on := 19, ground := Ground.data }, { on := 9, ground := Ground.guard }], guard := some (9, true) }) (v := ?_) rfl (by kernel_rfl) (by kernel_rfl) (by kernel_rfl) (fun _ _ _ h => h) (Or.inl ⟨by rfl, ?_⟩) (by assumption) ?_
            rotate_left
            focus ((intro w hSw; (try dsimp only at hSw); go_simp) <;> (try with_reducible rfl))
            try simp only [Act.put, List.setIfInBounds_toArray, List.set_cons_zero, List.set_cons_succ]
            refine wpAnyH_take (i := 21) (oi := { dst := some 31, op := Op.pick (Operand.tmp 19) (Operand.tmp 30) (Operand.const (Value.bool false)), type := 4, pos := "ref.go:19", after := #[{ on := 9, ground := Ground.data }, { on := 20, ground := Ground.data }, { on := 6, ground := Ground.guard }], guard := some (6, false) }) (v := ?_) rfl (by kernel_rfl) (by kernel_rfl) (by kernel_rfl) (fun _ _ _ h => h) (Or.inl ⟨by rfl, ?_⟩) (by assumption) ?_
            rotate_left
            focus ((intro w hSw; (try dsimp only at hSw); go_simp) <;> (try with_reducible rfl))
            try simp only [Act.put, List.setIfInBounds_toArray, List.set_cons_zero, List.set_cons_succ]
            refine wpAnyH_take (i := 22) (oi := { dst := some 32, op := Op.pick (Operand.tmp 16) (Operand.const (Value.bool true)) (Operand.tmp 31), type := 4, pos := "ref.go:19", after := #[{ on := 6, ground := Ground.data }, { on := 21, ground := Ground.data }], guard := none }) (v := ?_) rfl (by kernel_rfl) (by kernel_rfl) (by kernel_rfl) (fun _ _ _ h => h) (Or.inl ⟨by rfl, ?_⟩) (by assumption) ?_
            rotate_left
            focus ((intro w hSw; (try dsimp only at hSw); go_simp) <;> (try with_reducible rfl))
            try simp only [Act.put, List.setIfInBounds_toArray, List.set_cons_zero, List.set_cons_succ]
            refine wpAnyH_done (by kernel_rfl) ?_ _
            go_wp2_with fail
            go_ret
            exact RetW.mk (by rw [hF]; rfl) HB4.out
    · obtain rfl : k = l.length := by omega
      have HV : Hid (checkV l = true) := HC.out
      go_wp2_with fail
      go_ret
      exact RetW.mk (by rw [HV.out]; rfl) HB.out
end Go.Proofs.Ytodonnagmgbliaa
