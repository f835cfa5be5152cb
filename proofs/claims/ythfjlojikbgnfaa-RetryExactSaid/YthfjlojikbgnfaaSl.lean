/- The document's comparison of lists, where both sides say the same. -/
import Derived.Test.YthfjlojikbgnfaaSb
namespace Go.Proofs.Ythfjlojikbgnfaa
open Go.ChangeShapes Go.WideShapes Go.ChangeAt Go.RowKit

theorem moved_of_key {w w' : World} {x y : Ar} (h : key x = key y) (hx : MemOK w x) (hy : MemOK w' y) : y = x.moved y.ma y.mc := by
  obtain ⟨id, ten, kd, sec, cnt, dat, fua, ma, ml, mc, tm, tk, tr, mem⟩ := x
  obtain ⟨id', ten', kd', sec', cnt', dat', fua', ma', ml', mc', tm', tk', tr', mem'⟩ := y
  simp only [key, Ar.mk.injEq] at h
  obtain ⟨rfl, rfl, rfl, rfl, rfl, rfl, rfl, _, _, _, rfl, rfl, rfl, rfl⟩ := h
  have h1 := hx.1; have h2 := hy.1
  simp only at h1 h2
  have : ml' = ml := by omega
  subst this
  rfl
set_option maxHeartbeats 4000000 in
theorem sameL_any (a : Option Addr) (c : Nat) (l : List Ar) (a' : Option Addr) (c' : Nat) (l' : List Ar) (w : World) (hr : ARow w a c l) (hr' : ARow w a' c' l') (hm : ∀ x ∈ l, MemOK w x) (hm' : ∀ x ∈ l', MemOK w x) (hk : l.map key = l'.map key) (hl : l.length ≤ 1000) :
    Calls Try.prog 13 #[.slice a l.length c, .slice a' l.length c'] w (RetW (.bool true) w) := by
  have hlen : l'.length = l.length := by have := congrArg List.length hk; simpa using this.symm
  have HR : Hid (∀ W, Below w.heap.size w W → ∀ j, j < l.length → ∃ g o g' o' x q mc, a = some ⟨g, o, none⟩ ∧ a' = some ⟨g', o', none⟩ ∧ g < w.heap.size ∧ g' < w.heap.size ∧ (l.length : Int) ≤ c ∧ (l.length : Int) ≤ c' ∧
      W.rangeAt g (o + j * 11) x.cells ∧ W.rangeAt g' (o' + j * 11) (x.moved q mc).cells ∧ MemOK W x ∧ MemOK W (x.moved q mc)) := by
    intro W hb j hj
    obtain ⟨g, o, h1, h2, h3, h4, h5⟩ := (hr.below hb).at (by omega)
    obtain ⟨g', o', h1', h2', h3', h4', h5'⟩ := (hr'.below hb).at (by omega)
    have hgw : g < w.heap.size := by obtain ⟨g2, o2, e, h, _⟩ := hr.at (by omega); rw [h1] at e; cases e; exact h
    have hgw' : g' < w.heap.size := by obtain ⟨g2, o2, e, h, _⟩ := hr'.at (by omega); rw [h1'] at e; cases e; exact h
    have hx : MemOK W l[j] := (hm _ (List.getElem_mem hj)).below hb
    have hy : MemOK W (l'[j]'(by omega)) := (hm' _ (List.getElem_mem (by omega))).below hb
    have hkj : key l[j] = key (l'[j]'(by omega)) := by
      have h6 := congrArg (fun z => z[j]?) hk
      simp only [List.getElem?_map, List.getElem?_eq_getElem hj, List.getElem?_eq_getElem (show j < l'.length by omega), Option.map_some, Option.some.injEq] at h6
      exact h6
    have hmv := moved_of_key hkj hx hy
    refine ⟨g, o, g', o', l[j], (l'[j]'(by omega)).ma, (l'[j]'(by omega)).mc, h1, h1', hgw, hgw', by omega, by omega, ?_, ?_, hx, ?_⟩
    · rw [← getD_get hj]; exact h5 j hj
    · rw [← hmv, ← getD_get (show j < l'.length by omega)]; exact h5' j (by omega)
    · rw [← hmv]; exact hy
  have HL : Hid (l.length ≤ 1000) := hl
  clear hr hr' hm hm' hk hlen hl
  go_enter Try.func13, Try.ntmps13
  go_wp2_with fail
  go_loopw [5] (fun v5 wr => ∃ k : Nat, k ≤ l.length ∧ v5 = .int .i64 k ∧ Hid (Below w.heap.size w wr)) (fun v5 _ => 3000 - (intOf v5).toNat)
  case atStart => exact ⟨0, Nat.zero_le _, rfl, Below.refl _ _⟩
  case round =>
    obtain ⟨k, hk, rfl, HB⟩ := hrel
    have hl := HL.out
    by_cases hlt : k < l.length
    · have hlt' : (k : Int) < (l.length : Int) := by omega
      obtain ⟨g, o, g', o', x, q, mc, rfl, rfl, hg, hg', hc1, hc2, hr1, hr2, hx, hy⟩ := HR.out wr HB.out k hlt
      have hs9 : wr.cell? ⟨g, o + k * 11 + 9, none⟩ = some (.int .i64 x.tk) := hr1 9 _ (by simp [Ar.cells])
      have hs10 : wr.cell? ⟨g, o + k * 11 + 10, none⟩ = some (.int .i64 x.tr) := hr1 10 _ (by simp [Ar.cells])
      have ht9 : wr.cell? ⟨g', o' + k * 11 + 9, none⟩ = some (.int .i64 x.tk) := hr2 9 _ (by simp [Ar.cells, Ar.moved])
      have ht10 : wr.cell? ⟨g', o' + k * 11 + 10, none⟩ = some (.int .i64 x.tr) := hr2 10 _ (by simp [Ar.cells, Ar.moved])
      have HS : Hid (wr.rangeAt g (o + k * 11) x.bcells) := fun j v hv => hr1 j v (by
        have h1 : x.cells = x.bcells ++ [.int .i64 x.tk, .int .i64 x.tr] := rfl
        rw [h1, List.getElem?_append_left (List.getElem?_eq_some_iff.1 hv).1]; exact hv)
      have HT : Hid (wr.rangeAt g' (o' + k * 11) (x.moved q mc).bcells) := fun j v hv => hr2 j v (by
        have h1 : (x.moved q mc).cells = (x.moved q mc).bcells ++ [.int .i64 x.tk, .int .i64 x.tr] := rfl
        rw [h1, List.getElem?_append_left (List.getElem?_eq_some_iff.1 hv).1]; exact hv)
      have HX := Lib.hid hx
      have HY := Lib.hid hy
      clear hr1 hr2 hx hy
      go_upto_region 6 with (fail)
      refine wp_region_held_drew (S := fun w' => w'.cell? ⟨g, o + k * 11 + 9, none⟩ = some (.int .i64 x.tk) ∧ w'.cell? ⟨g, o + k * 11 + 10, none⟩ = some (.int .i64 x.tr) ∧ w'.cell? ⟨g', o' + k * 11 + 9, none⟩ = some (.int .i64 x.tk) ∧ w'.cell? ⟨g', o' + k * 11 + 10, none⟩ = some (.int .i64 x.tr) ∧ Hid (w'.rangeAt g (o + k * 11) x.bcells) ∧ Hid (w'.rangeAt g' (o' + k * 11) (x.moved q mc).bcells)) (by kernel_rfl) (by (try dsimp only); (first | exact ⟨hs9, hs10, ht9, ht10, HS.out, HT.out⟩ | exact ⟨us9, us10, ut9, ut10, US.out, UT.out⟩)) (fun hHeld => ?_)
      refine wpAnyH_take (i := 0) (oi := { dst := some 17, op := Op.move (Operand.tmp 0), type := 34, pos := "ref.go:268", after := #[], guard := none }) (v := ?_) rfl (by kernel_rfl) (by kernel_rfl) (by kernel_rfl) (fun _ _ _ h => h) (Or.inl ⟨by rfl, ?_⟩) (by assumption) ?_
      rotate_left
      focus ((intro w hSw; (try dsimp only at hSw); go_simp) <;> (try with_reducible rfl))
      try simp only [Act.put, List.setIfInBounds_toArray, List.set_cons_zero, List.set_cons_succ]
      refine wpAnyH_take (i := 1) (oi := { dst := some 18, op := Op.move (Operand.tmp 5), type := 3, pos := "ref.go:268", after := #[], guard := none }) (v := ?_) rfl (by kernel_rfl) (by kernel_rfl) (by kernel_rfl) (fun _ _ _ h => h) (Or.inl ⟨by rfl, ?_⟩) (by assumption) ?_
      rotate_left
      focus ((intro w hSw; (try dsimp only at hSw); go_simp) <;> (try with_reducible rfl))
      try simp only [Act.put, List.setIfInBounds_toArray, List.set_cons_zero, List.set_cons_succ]
      refine wpAnyH_take (i := 2) (oi := { dst := some 19, op := Op.indexAddr 34 (Operand.tmp 17) (Operand.tmp 18), type := 0, pos := "ref.go:268", after := #[{ on := 0, ground := Ground.data }, { on := 1, ground := Ground.data }], guard := none }) (v := ?_) rfl (by kernel_rfl) (by kernel_rfl) (by kernel_rfl) (fun _ _ _ h => h) (Or.inl ⟨by rfl, ?_⟩) (by assumption) ?_
      rotate_left
      focus ((intro w hSw; (try dsimp only at hSw); go_simp) <;> (try with_reducible rfl))
      try simp only [Act.put, List.setIfInBounds_toArray, List.set_cons_zero, List.set_cons_succ]
      refine wpAnyH_take (i := 3) (oi := { dst := some 20, op := Op.fieldAddr 40 (Operand.tmp 19) 1, type := 0, pos := "ref.go:268", after := #[{ on := 2, ground := Ground.data }], guard := none }) (v := ?_) rfl (by kernel_rfl) (by kernel_rfl) (by kernel_rfl) (fun _ _ _ h => h) (Or.inl ⟨by rfl, ?_⟩) (by assumption) ?_
      rotate_left
      focus ((intro w hSw; (try dsimp only at hSw); go_simp) <;> (try with_reducible rfl))
      try simp only [Act.put, List.setIfInBounds_toArray, List.set_cons_zero, List.set_cons_succ]
      refine wpAnyH_take (i := 4) (oi := { dst := some 21, op := Op.load 3 (Operand.tmp 20), type := 3, pos := "ref.go:268", after := #[{ on := 3, ground := Ground.data }], guard := none }) (v := ?_) rfl (by kernel_rfl) (by kernel_rfl) (by kernel_rfl) (fun _ _ _ h => h) (Or.inl ⟨by rfl, ?_⟩) (by assumption) ?_
      rotate_left
      focus ((intro w hSw; (try dsimp only at hSw); go_simp) <;> (try with_reducible rfl))
      try simp only [Act.put, List.setIfInBounds_toArray, List.set_cons_zero, List.set_cons_succ]
      refine wpAnyH_take (i := 5) (oi := { dst := some 22, op := Op.move (Operand.tmp 1), type := 34, pos := "ref.go:268", after := #[], guard := none }) (v := ?_) rfl (by kernel_rfl) (by kernel_rfl) (by kernel_rfl) (fun _ _ _ h => h) (Or.inl ⟨by rfl, ?_⟩) (by assumption) ?_
      rotate_left
      focus ((intro w hSw; (try dsimp only at hSw); go_simp) <;> (try with_reducible rfl))
      try simp only [Act.put, List.setIfInBounds_toArray, List.set_cons_zero, List.set_cons_succ]
      refine wpAnyH_take (i := 6) (oi := { dst := some 23, op := Op.move (Operand.tmp 5), type := 3, pos := "ref.go:268", after := #[], guard := none }) (v := ?_) rfl (by kernel_rfl) (by kernel_rfl) (by kernel_rfl) (fun _ _ _ h => h) (Or.inl ⟨by rfl, ?_⟩) (by assumption) ?_
      rotate_left
      focus ((intro w hSw; (try dsimp only at hSw); go_simp) <;> (try with_reducible rfl))
      try simp only [Act.put, List.setIfInBounds_toArray, List.set_cons_zero, List.set_cons_succ]
      refine wpAnyH_take (i := 7) (oi := { dst := some 24, op := Op.indexAddr 34 (Operand.tmp 22) (Operand.tmp 23), type := 0, pos := "ref.go:268", after := #[{ on := 5, ground := Ground.data }, { on := 6, ground := Ground.data }], guard := none }) (v := ?_) rfl (by kernel_rfl) (by kernel_rfl) (by kernel_rfl) (fun _ _ _ h => h) (Or.inl ⟨by rfl, ?_⟩) (by assumption) ?_
      rotate_left
      focus ((intro w hSw; (try dsimp only at hSw); go_simp) <;> (try with_reducible rfl))
      try simp only [Act.put, List.setIfInBounds_toArray, List.set_cons_zero, List.set_cons_succ]
      refine wpAnyH_take (i := 8) (oi := { dst := some 25, op := Op.fieldAddr 40 (Operand.tmp 24) 1, type := 0, pos := "ref.go:268", after := #[{ on := 7, ground := Ground.data }], guard := none }) (v := ?_) rfl (by kernel_rfl) (by kernel_rfl) (by kernel_rfl) (fun _ _ _ h => h) (Or.inl ⟨by rfl, ?_⟩) (by assumption) ?_
      rotate_left
      focus ((intro w hSw; (try dsimp only at hSw); go_simp) <;> (try with_reducible rfl))
      try simp only [Act.put, List.setIfInBounds_toArray, List.set_cons_zero, List.set_cons_succ]
      refine wpAnyH_take (i := 9) (oi := { dst := some 26, op := Op.load 3 (Operand.tmp 25), type := 3, pos := "ref.go:268", after := #[{ on := 8, ground := Ground.data }], guard := none }) (v := ?_) rfl (by kernel_rfl) (by kernel_rfl) (by kernel_rfl) (fun _ _ _ h => h) (Or.inl ⟨by rfl, ?_⟩) (by assumption) ?_
      rotate_left
      focus ((intro w hSw; (try dsimp only at hSw); go_simp) <;> (try with_reducible rfl))
      try simp only [Act.put, List.setIfInBounds_toArray, List.set_cons_zero, List.set_cons_succ]
      refine wpAnyH_take (i := 10) (oi := { dst := some 27, op := Op.binOp BinOp.neq 3 (Operand.tmp 21) (Operand.tmp 26) 3, type := 4, pos := "ref.go:268", after := #[{ on := 4, ground := Ground.data }, { on := 9, ground := Ground.data }], guard := none }) (v := ?_) rfl (by kernel_rfl) (by kernel_rfl) (by kernel_rfl) (fun _ _ _ h => h) (Or.inl ⟨by rfl, ?_⟩) (by assumption) ?_
      rotate_left
      focus ((intro w hSw; (try dsimp only at hSw); go_simp) <;> (try with_reducible rfl))
      try simp only [Act.put, List.setIfInBounds_toArray, List.set_cons_zero, List.set_cons_succ]
      refine wpAnyH_take (i := 11) (oi := { dst := some 28, op := Op.move (Operand.tmp 27), type := 4, pos := "ref.go:268", after := #[{ on := 10, ground := Ground.data }], guard := none }) (v := ?_) rfl (by kernel_rfl) (by kernel_rfl) (by kernel_rfl) (fun _ _ _ h => h) (Or.inl ⟨by rfl, ?_⟩) (by assumption) ?_
      rotate_left
      focus ((intro w hSw; (try dsimp only at hSw); go_simp) <;> (try with_reducible rfl))
      try simp only [Act.put, List.setIfInBounds_toArray, List.set_cons_zero, List.set_cons_succ]
      refine wpAnyH_take (i := 12) (oi := { dst := some 29, op := Op.move (Operand.tmp 0), type := 34, pos := "ref.go:268", after := #[{ on := 11, ground := Ground.guard }], guard := some (11, false) }) (v := ?_) rfl (by kernel_rfl) (by kernel_rfl) (by kernel_rfl) (fun _ _ _ h => h) (Or.inl ⟨by rfl, ?_⟩) (by assumption) ?_
      rotate_left
      focus ((intro w hSw; (try dsimp only at hSw); go_simp) <;> (try with_reducible rfl))
      try simp only [Act.put, List.setIfInBounds_toArray, List.set_cons_zero, List.set_cons_succ]
      refine wpAnyH_take (i := 13) (oi := { dst := some 30, op := Op.move (Operand.tmp 5), type := 3, pos := "ref.go:268", after := #[{ on := 11, ground := Ground.guard }], guard := some (11, false) }) (v := ?_) rfl (by kernel_rfl) (by kernel_rfl) (by kernel_rfl) (fun _ _ _ h => h) (Or.inl ⟨by rfl, ?_⟩) (by assumption) ?_
      rotate_left
      focus ((intro w hSw; (try dsimp only at hSw); go_simp) <;> (try with_reducible rfl))
      try simp only [Act.put, List.setIfInBounds_toArray, List.set_cons_zero, List.set_cons_succ]
      refine wpAnyH_take (i := 14) (oi := { dst := some 31, op := Op.indexAddr 34 (Operand.tmp 29) (Operand.tmp 30), type := 0, pos := "ref.go:268", after := #[{ on := 12, ground := Ground.data }, { on := 13, ground := Ground.data }, { on := 11, ground := Ground.guard }], guard := some (11, false) }) (v := ?_) rfl (by kernel_rfl) (by kernel_rfl) (by kernel_rfl) (fun _ _ _ h => h) (Or.inl ⟨by rfl, ?_⟩) (by assumption) ?_
      rotate_left
      focus ((intro w hSw; (try dsimp only at hSw); go_simp) <;> (try with_reducible rfl))
      try simp only [Act.put, List.setIfInBounds_toArray, List.set_cons_zero, List.set_cons_succ]
      refine wpAnyH_take (i := 15) (oi := { dst := some 32, op := Op.fieldAddr 40 (Operand.tmp 31) 2, type := 0, pos := "ref.go:268", after := #[{ on := 14, ground := Ground.data }, { on := 11, ground := Ground.guard }], guard := some (11, false) }) (v := ?_) rfl (by kernel_rfl) (by kernel_rfl) (by kernel_rfl) (fun _ _ _ h => h) (Or.inl ⟨by rfl, ?_⟩) (by assumption) ?_
      rotate_left
      focus ((intro w hSw; (try dsimp only at hSw); go_simp) <;> (try with_reducible rfl))
      try simp only [Act.put, List.setIfInBounds_toArray, List.set_cons_zero, List.set_cons_succ]
      refine wpAnyH_take (i := 16) (oi := { dst := some 33, op := Op.load 3 (Operand.tmp 32), type := 3, pos := "ref.go:268", after := #[{ on := 15, ground := Ground.data }, { on := 11, ground := Ground.guard }], guard := some (11, false) }) (v := ?_) rfl (by kernel_rfl) (by kernel_rfl) (by kernel_rfl) (fun _ _ _ h => h) (Or.inl ⟨by rfl, ?_⟩) (by assumption) ?_
      rotate_left
      focus ((intro w hSw; (try dsimp only at hSw); go_simp) <;> (try with_reducible rfl))
      try simp only [Act.put, List.setIfInBounds_toArray, List.set_cons_zero, List.set_cons_succ]
      refine wpAnyH_take (i := 17) (oi := { dst := some 34, op := Op.move (Operand.tmp 1), type := 34, pos := "ref.go:268", after := #[{ on := 11, ground := Ground.guard }], guard := some (11, false) }) (v := ?_) rfl (by kernel_rfl) (by kernel_rfl) (by kernel_rfl) (fun _ _ _ h => h) (Or.inl ⟨by rfl, ?_⟩) (by assumption) ?_
      rotate_left
      focus ((intro w hSw; (try dsimp only at hSw); go_simp) <;> (try with_reducible rfl))
      try simp only [Act.put, List.setIfInBounds_toArray, List.set_cons_zero, List.set_cons_succ]
      refine wpAnyH_take (i := 18) (oi := { dst := some 35, op := Op.move (Operand.tmp 5), type := 3, pos := "ref.go:268", after := #[{ on := 11, ground := Ground.guard }], guard := some (11, false) }) (v := ?_) rfl (by kernel_rfl) (by kernel_rfl) (by kernel_rfl) (fun _ _ _ h => h) (Or.inl ⟨by rfl, ?_⟩) (by assumption) ?_
      rotate_left
      focus ((intro w hSw; (try dsimp only at hSw); go_simp) <;> (try with_reducible rfl))
      try simp only [Act.put, List.setIfInBounds_toArray, List.set_cons_zero, List.set_cons_succ]
      refine wpAnyH_take (i := 19) (oi := { dst := some 36, op := Op.indexAddr 34 (Operand.tmp 34) (Operand.tmp 35), type := 0, pos := "ref.go:268", after := #[{ on := 17, ground := Ground.data }, { on := 18, ground := Ground.data }, { on := 11, ground := Ground.guard }], guard := some (11, false) }) (v := ?_) rfl (by kernel_rfl) (by kernel_rfl) (by kernel_rfl) (fun _ _ _ h => h) (Or.inl ⟨by rfl, ?_⟩) (by assumption) ?_
      rotate_left
      focus ((intro w hSw; (try dsimp only at hSw); go_simp) <;> (try with_reducible rfl))
      try simp only [Act.put, List.setIfInBounds_toArray, List.set_cons_zero, List.set_cons_succ]
      refine wpAnyH_take (i := 20) (oi := { dst := some 37, op := Op.fieldAddr 40 (Operand.tmp 36) 2, type := 0, pos := "ref.go:268", after := #[{ on := 19, ground := Ground.data }, { on := 11, ground := Ground.guard }], guard := some (11, false) }) (v := ?_) rfl (by kernel_rfl) (by kernel_rfl) (by kernel_rfl) (fun _ _ _ h => h) (Or.inl ⟨by rfl, ?_⟩) (by assumption) ?_
      rotate_left
      focus ((intro w hSw; (try dsimp only at hSw); go_simp) <;> (try with_reducible rfl))
      try simp only [Act.put, List.setIfInBounds_toArray, List.set_cons_zero, List.set_cons_succ]
      refine wpAnyH_take (i := 21) (oi := { dst := some 38, op := Op.load 3 (Operand.tmp 37), type := 3, pos := "ref.go:268", after := #[{ on := 20, ground := Ground.data }, { on := 11, ground := Ground.guard }], guard := some (11, false) }) (v := ?_) rfl (by kernel_rfl) (by kernel_rfl) (by kernel_rfl) (fun _ _ _ h => h) (Or.inl ⟨by rfl, ?_⟩) (by assumption) ?_
      rotate_left
      focus ((intro w hSw; (try dsimp only at hSw); go_simp) <;> (try with_reducible rfl))
      try simp only [Act.put, List.setIfInBounds_toArray, List.set_cons_zero, List.set_cons_succ]
      refine wpAnyH_take (i := 22) (oi := { dst := some 39, op := Op.binOp BinOp.neq 3 (Operand.tmp 33) (Operand.tmp 38) 3, type := 4, pos := "ref.go:268", after := #[{ on := 16, ground := Ground.data }, { on := 21, ground := Ground.data }, { on := 11, ground := Ground.guard }], guard := some (11, false) }) (v := ?_) rfl (by kernel_rfl) (by kernel_rfl) (by kernel_rfl) (fun _ _ _ h => h) (Or.inl ⟨by rfl, ?_⟩) (by assumption) ?_
      rotate_left
      focus ((intro w hSw; (try dsimp only at hSw); go_simp) <;> (try with_reducible rfl))
      try simp only [Act.put, List.setIfInBounds_toArray, List.set_cons_zero, List.set_cons_succ]
      refine wpAnyH_take (i := 23) (oi := { dst := some 40, op := Op.pick (Operand.tmp 28) (Operand.const (Value.bool true)) (Operand.tmp 39), type := 4, pos := "ref.go:268", after := #[{ on := 11, ground := Ground.data }, { on := 22, ground := Ground.data }], guard := none }) (v := ?_) rfl (by kernel_rfl) (by kernel_rfl) (by kernel_rfl) (fun _ _ _ h => h) (Or.inl ⟨by rfl, ?_⟩) (by assumption) ?_
      rotate_left
      focus ((intro w hSw; (try dsimp only at hSw); go_simp) <;> (try with_reducible rfl))
      try simp only [Act.put, List.setIfInBounds_toArray, List.set_cons_zero, List.set_cons_succ]
      refine wpAnyH_take (i := 24) (oi := { dst := some 41, op := Op.move (Operand.tmp 40), type := 4, pos := "ref.go:268", after := #[{ on := 23, ground := Ground.data }, { on := 11, ground := Ground.chain }], guard := none }) (v := ?_) rfl (by kernel_rfl) (by kernel_rfl) (by kernel_rfl) (fun _ _ _ h => h) (Or.inl ⟨by rfl, ?_⟩) (by assumption) ?_
      rotate_left
      focus ((intro w hSw; (try dsimp only at hSw); go_simp) <;> (try with_reducible rfl))
      try simp only [Act.put, List.setIfInBounds_toArray, List.set_cons_zero, List.set_cons_succ]
      refine wpAnyH_take (i := 25) (oi := { dst := some 42, op := Op.move (Operand.tmp 0), type := 34, pos := "ref.go:268", after := #[{ on := 24, ground := Ground.guard }], guard := some (24, false) }) (v := ?_) rfl (by kernel_rfl) (by kernel_rfl) (by kernel_rfl) (fun _ _ _ h => h) (Or.inl ⟨by rfl, ?_⟩) (by assumption) ?_
      rotate_left
      focus ((intro w hSw; (try dsimp only at hSw); go_simp) <;> (try with_reducible rfl))
      try simp only [Act.put, List.setIfInBounds_toArray, List.set_cons_zero, List.set_cons_succ]
      refine wpAnyH_take (i := 26) (oi := { dst := some 43, op := Op.move (Operand.tmp 5), type := 3, pos := "ref.go:268", after := #[{ on := 24, ground := Ground.guard }], guard := some (24, false) }) (v := ?_) rfl (by kernel_rfl) (by kernel_rfl) (by kernel_rfl) (fun _ _ _ h => h) (Or.inl ⟨by rfl, ?_⟩) (by assumption) ?_
      rotate_left
      focus ((intro w hSw; (try dsimp only at hSw); go_simp) <;> (try with_reducible rfl))
      try simp only [Act.put, List.setIfInBounds_toArray, List.set_cons_zero, List.set_cons_succ]
      refine wpAnyH_take (i := 27) (oi := { dst := some 44, op := Op.indexAddr 34 (Operand.tmp 42) (Operand.tmp 43), type := 0, pos := "ref.go:268", after := #[{ on := 25, ground := Ground.data }, { on := 26, ground := Ground.data }, { on := 24, ground := Ground.guard }], guard := some (24, false) }) (v := ?_) rfl (by kernel_rfl) (by kernel_rfl) (by kernel_rfl) (fun _ _ _ h => h) (Or.inl ⟨by rfl, ?_⟩) (by assumption) ?_
      rotate_left
      focus ((intro w hSw; (try dsimp only at hSw); go_simp) <;> (try with_reducible rfl))
      try simp only [Act.put, List.setIfInBounds_toArray, List.set_cons_zero, List.set_cons_succ]
      refine wpAnyH_take (i := 28) (oi := { dst := some 45, op := Op.fieldAddr 40 (Operand.tmp 44) 0, type := 0, pos := "ref.go:268", after := #[{ on := 27, ground := Ground.data }, { on := 24, ground := Ground.guard }], guard := some (24, false) }) (v := ?_) rfl (by kernel_rfl) (by kernel_rfl) (by kernel_rfl) (fun _ _ _ h => h) (Or.inl ⟨by rfl, ?_⟩) (by assumption) ?_
      rotate_left
      focus ((intro w hSw; (try dsimp only at hSw); go_simp) <;> (try with_reducible rfl))
      try simp only [Act.put, List.setIfInBounds_toArray, List.set_cons_zero, List.set_cons_succ]
      refine wpAnyH_take (i := 29) (oi := { dst := some 46, op := Op.load 38 (Operand.tmp 45), type := 38, pos := "ref.go:268", after := #[{ on := 28, ground := Ground.data }, { on := 24, ground := Ground.guard }], guard := some (24, false) }) (v := .agg x.bcells.toArray) rfl (by kernel_rfl) (by kernel_rfl) (by kernel_rfl) (fun _ _ _ h => h) (yieldsIf_load_mid (by rfl) 38 _ rfl g (o + k * 11) rfl _ _ (fun w hw => hw.2.2.2.2.1.out) Try.underlying38 rfl size38) (by assumption) ?_
      try simp only [Act.put, List.setIfInBounds_toArray, List.set_cons_zero, List.set_cons_succ]
      refine wpAnyH_take (i := 30) (oi := { dst := some 47, op := Op.move (Operand.tmp 1), type := 34, pos := "ref.go:268", after := #[{ on := 24, ground := Ground.guard }], guard := some (24, false) }) (v := ?_) rfl (by kernel_rfl) (by kernel_rfl) (by kernel_rfl) (fun _ _ _ h => h) (Or.inl ⟨by rfl, ?_⟩) (by assumption) ?_
      rotate_left
      focus ((intro w hSw; (try dsimp only at hSw); go_simp) <;> (try with_reducible rfl))
      try simp only [Act.put, List.setIfInBounds_toArray, List.set_cons_zero, List.set_cons_succ]
      refine wpAnyH_take (i := 31) (oi := { dst := some 48, op := Op.move (Operand.tmp 5), type := 3, pos := "ref.go:268", after := #[{ on := 24, ground := Ground.guard }], guard := some (24, false) }) (v := ?_) rfl (by kernel_rfl) (by kernel_rfl) (by kernel_rfl) (fun _ _ _ h => h) (Or.inl ⟨by rfl, ?_⟩) (by assumption) ?_
      rotate_left
      focus ((intro w hSw; (try dsimp only at hSw); go_simp) <;> (try with_reducible rfl))
      try simp only [Act.put, List.setIfInBounds_toArray, List.set_cons_zero, List.set_cons_succ]
      refine wpAnyH_take (i := 32) (oi := { dst := some 49, op := Op.indexAddr 34 (Operand.tmp 47) (Operand.tmp 48), type := 0, pos := "ref.go:268", after := #[{ on := 30, ground := Ground.data }, { on := 31, ground := Ground.data }, { on := 24, ground := Ground.guard }], guard := some (24, false) }) (v := ?_) rfl (by kernel_rfl) (by kernel_rfl) (by kernel_rfl) (fun _ _ _ h => h) (Or.inl ⟨by rfl, ?_⟩) (by assumption) ?_
      rotate_left
      focus ((intro w hSw; (try dsimp only at hSw); go_simp) <;> (try with_reducible rfl))
      try simp only [Act.put, List.setIfInBounds_toArray, List.set_cons_zero, List.set_cons_succ]
      refine wpAnyH_take (i := 33) (oi := { dst := some 50, op := Op.fieldAddr 40 (Operand.tmp 49) 0, type := 0, pos := "ref.go:268", after := #[{ on := 32, ground := Ground.data }, { on := 24, ground := Ground.guard }], guard := some (24, false) }) (v := ?_) rfl (by kernel_rfl) (by kernel_rfl) (by kernel_rfl) (fun _ _ _ h => h) (Or.inl ⟨by rfl, ?_⟩) (by assumption) ?_
      rotate_left
      focus ((intro w hSw; (try dsimp only at hSw); go_simp) <;> (try with_reducible rfl))
      try simp only [Act.put, List.setIfInBounds_toArray, List.set_cons_zero, List.set_cons_succ]
      refine wpAnyH_take (i := 34) (oi := { dst := some 51, op := Op.load 38 (Operand.tmp 50), type := 38, pos := "ref.go:268", after := #[{ on := 33, ground := Ground.data }, { on := 24, ground := Ground.guard }], guard := some (24, false) }) (v := .agg (x.moved q mc).bcells.toArray) rfl (by kernel_rfl) (by kernel_rfl) (by kernel_rfl) (fun _ _ _ h => h) (yieldsIf_load_mid (by rfl) 38 _ rfl g' (o' + k * 11) rfl _ _ (fun w hw => hw.2.2.2.2.2.out) Try.underlying38 rfl size38) (by assumption) ?_
      try simp only [Act.put, List.setIfInBounds_toArray, List.set_cons_zero, List.set_cons_succ]
      refine wpAnyH_ready (rs := [35]) (by kernel_rfl) (by simp) ?_
      refine AllReadyH.cons (o := { dst := some 52, op := Op.call { callee := Callee.value (Operand.func 25), args := #[Operand.tmp 46, Operand.tmp 51], argTypes := #[38, 38] }, type := 4, pos := "ref.go:268", after := #[{ on := 29, ground := Ground.data }, { on := 34, ground := Ground.data }, { on := 24, ground := Ground.chain }, { on := 24, ground := Ground.guard }], guard := some (24, false) }) rfl (fun K hK => ?_) AllReadyH.nil
      go_simp
      (first | (go_at_call 25; refine (sameB_any x q mc _ (HX.out.below (Below.drew (Below.refl _ _))) (HY.out.below (Below.drew (Below.refl _ _)))).mono ?_; rintro e w2 ⟨rfl, hb⟩; have us9 := (hb.cell (p := ⟨g, o + k * 11 + 9, none⟩) (Nat.lt_of_lt_of_le hg HB.out.size)).trans hs9; have us10 := (hb.cell (p := ⟨g, o + k * 11 + 10, none⟩) (Nat.lt_of_lt_of_le hg HB.out.size)).trans hs10; have ut9 := (hb.cell (p := ⟨g', o' + k * 11 + 9, none⟩) (Nat.lt_of_lt_of_le hg' HB.out.size)).trans ht9; have ut10 := (hb.cell (p := ⟨g', o' + k * 11 + 10, none⟩) (Nat.lt_of_lt_of_le hg' HB.out.size)).trans ht10; have US : Hid (w2.rangeAt g (o + k * 11) x.bcells) := fun j v hv => (hb.cell (p := ⟨g, o + k * 11 + j, none⟩) (Nat.lt_of_lt_of_le hg HB.out.size)).trans (HS.out j v hv); have UT : Hid (w2.rangeAt g' (o' + k * 11) (x.moved q mc).bcells) := fun j v hv => (hb.cell (p := ⟨g', o' + k * 11 + j, none⟩) (Nat.lt_of_lt_of_le hg' HB.out.size)).trans (HT.out j v hv); have HB2 : Hid (Below w.heap.size w w2) := (Below.drew HB.out).trans (hb.mono HB.out.size); clear hb))
      go_wp2_with fail
      refine hK.out _ _ (by (try dsimp only); (first | exact ⟨hs9, hs10, ht9, ht10, HS.out, HT.out⟩ | exact ⟨us9, us10, ut9, ut10, US.out, UT.out⟩)) (fun hHeld => ?_)
      clear hK K
      try simp only [Act.put, List.setIfInBounds_toArray, List.set_cons_zero, List.set_cons_succ]
      refine wpAnyH_take (i := 36) (oi := { dst := some 53, op := Op.unOp UnOp.not 4 (Operand.tmp 52), type := 4, pos := "ref.go:268", after := #[{ on := 35, ground := Ground.data }, { on := 24, ground := Ground.guard }], guard := some (24, false) }) (v := ?_) rfl (by kernel_rfl) (by kernel_rfl) (by kernel_rfl) (fun _ _ _ h => h) (Or.inl ⟨by rfl, ?_⟩) (by assumption) ?_
      rotate_left
      focus ((intro w hSw; (try dsimp only at hSw); go_simp) <;> (try with_reducible rfl))
      try simp only [Act.put, List.setIfInBounds_toArray, List.set_cons_zero, List.set_cons_succ]
      refine wpAnyH_take (i := 37) (oi := { dst := some 54, op := Op.pick (Operand.tmp 41) (Operand.const (Value.bool true)) (Operand.tmp 53), type := 4, pos := "ref.go:268", after := #[{ on := 24, ground := Ground.data }, { on := 36, ground := Ground.data }], guard := none }) (v := ?_) rfl (by kernel_rfl) (by kernel_rfl) (by kernel_rfl) (fun _ _ _ h => h) (Or.inl ⟨by rfl, ?_⟩) (by assumption) ?_
      rotate_left
      focus ((intro w hSw; (try dsimp only at hSw); go_simp) <;> (try with_reducible rfl))
      try simp only [Act.put, List.setIfInBounds_toArray, List.set_cons_zero, List.set_cons_succ]
      refine wpAnyH_done (by kernel_rfl) ?_ _
      go_wp2_with fail
      go_roundw
      case rel => exact ⟨k + 1, by omega, by go_num, HB2⟩
      case measure => simp [intOf]; omega
    · obtain rfl : k = l.length := by omega
      go_wp2_with fail
      go_ret
      exact RetW.mk rfl HB.out
end Go.Proofs.Ythfjlojikbgnfaa
