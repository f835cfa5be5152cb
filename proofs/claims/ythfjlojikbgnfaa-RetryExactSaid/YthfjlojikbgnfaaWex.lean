/- RetryExact's walk. -/
import Derived.Test.YthfjlojikbgnfaaOp
import Derived.Test.YthfjlojikbgnfaaRa
import Derived.Test.YthfjlojikbgnfaaRr
import Derived.Test.YthfjlojikbgnfaaAl
import Derived.Test.YthfjlojikbgnfaaNx
namespace Go.Proofs.Ythfjlojikbgnfaa
open Go.ChangeShapes Go.WideShapes Go.ChangeAt Go.RowKit

/-- a list and its members in a world -/
structure Res (W : World) (a : Option Addr) (c : Nat) (l : List Ar) : Prop where
  row : ARow W a c l
  mem : ∀ y ∈ l, MemOK W y
theorem Res.below {W W' : World} {a : Option Addr} {c : Nat} {l : List Ar} (h : Res W a c l) (hb : Below W.heap.size W W') : Res W' a c l := ⟨h.row.below hb, fun y hy => (h.mem y hy).below hb⟩
/-- in the midst of RetryExact -/
structure MidX (w : World) (m t : Int) (x : Ar) (a : Option Addr) (c : Nat) (l : List Ar) (W : World) : Prop where
  bel : Below w.heap.size w W
  p : At W w.heap.size [.int .i64 m, .int .i64 t]
  b : At W (w.heap.size + 1) x.cells
  r : Res W a c l
  x : MemOK W x
theorem MidX.below {w : World} {m t : Int} {x : Ar} {a : Option Addr} {c : Nat} {l : List Ar} {W W' : World} (h : MidX w m t x a c l W) (hb : Below W.heap.size W W') : MidX w m t x a c l W' :=
  ⟨h.bel.trans (hb.mono h.bel.size), h.p.below hb h.p.hi, h.b.below hb h.b.hi, h.r.below hb, h.x.below hb⟩
theorem MidX.cc {w : World} {m t : Int} {x : Ar} {a : Option Addr} {c : Nat} {l : List Ar} {W : World} (h : MidX w m t x a c l W) : W.cell? ⟨w.heap.size, 0, none⟩ = some (.int .i64 m) ∧ W.cell? ⟨w.heap.size, 1, none⟩ = some (.int .i64 t) :=
  ⟨h.p.cell 0 _ rfl, h.p.cell 1 _ rfl⟩
theorem nextVal_eq (l : List Ar) : ∃ z b, nextVal l = .tuple #[.int .i64 z, .bool b] := by
  unfold nextVal
  split
  · exact ⟨_, _, rfl⟩
  · exact ⟨_, _, rfl⟩
theorem same_res {W : World} {a a' : Option Addr} {c c' : Nat} {l l' : List Ar} (n : Nat) (hn : l.length = n) (h : Res W a c l) (h' : Res W a' c' l') (hk : l.map key = l'.map key) (hl : n ≤ 1000) :
    Calls Try.prog 13 #[.slice a n c, .slice a' n c'] W (RetW (.bool true) W) := by
  subst hn
  exact sameL_any a c l a' c' l' W h.row h'.row h.mem h'.mem hk hl
theorem add_keys (l : List Ar) (x : Ar) : (addK l x).map key = addK (l.map key) (key x) := by
  unfold addK
  rw [insAt_map, place_key]
theorem add_len (l : List Ar) (x : Ar) : (addK l x).length = l.length + 1 := by
  have := congrArg List.length (add_keys l x)
  unfold addK insAt
  have := place_le x l
  simp
  omega

theorem add_res {w' : World} {a : Option Addr} {c : Nat} {l l5 : List Ar} {x : Ar} {B C : Nat} (ho : w'.ownsRow B 40 11 (.slice a (l.length + 1) c) (l.length + 1) (flat l5)) (hm : ∀ y ∈ l5, MemOK w' y ∧ MemLo C y) (hk : l5.map key = addK (l.map key) (key x)) :
    Hid (l5.length = l.length + 1) ∧ Hid (Res w' a c l5) := by
  have e : l5.length = l.length + 1 := by
    have h := congrArg List.length hk
    rw [← add_keys, List.length_map, List.length_map, add_len] at h
    exact h
  refine ⟨e, ?_, fun y hy => (hm y hy).1⟩
  rw [← e] at ho
  exact arow_own2 ho
theorem add_mem {W : World} {l : List Ar} {x : Ar} (hm : ∀ y ∈ l, MemOK W y) (hx : MemOK W x) : ∀ y ∈ addK l x, MemOK W y := fun y hy => by
  rcases mem_insAt hy with h | rfl
  · exact hm y h
  · exact hx

set_option maxHeartbeats 4000000 in
theorem exact_walk (m t er tries now : Int) (a : Option Addr) (c : Nat) (l : List Ar) (x : Ar) (w : World) (hr : ARow w a c l) (hm : ∀ y ∈ l, MemOK w y) (hx : MemOK w x) :
    Calls Try.prog 6 #[.agg #[.int .i64 m, .int .i64 t], .int .i64 er, .int .i64 tries, .int .i64 now, .slice a l.length c, arVal x] w (RetW (.bool true) w) := by
  obtain ⟨W0, hW0⟩ : ∃ W0, W0 = (w.alloc (Obj.cells #[Value.int IntKind.i64 m, Value.int IntKind.i64 t] 25)).alloc (Obj.cells x.cells.toArray 40) := ⟨_, rfl⟩
  have HX : Hid (MidX w m t x a c l W0) := by
    have hb : Below w.heap.size w W0 := by rw [hW0]; exact ((Below.refl _ w).alloc (Nat.le_refl _) _).alloc (by simp) _
    refine ⟨hb, ?_, ?_, (Res.mk hr hm).below hb, hx.below hb⟩
    · rw [hW0]; exact (At.new w [.int .i64 m, .int .i64 t] 25).alloc _
    · rw [hW0]; exact (At.new (w.alloc (Obj.cells #[Value.int IntKind.i64 m, Value.int IntKind.i64 t] 25)) x.cells 40).cast (by simp)
  have HC : Hid (c = c) := rfl
  clear hr hm hx
  unfold arVal
  simp only [Ar.cells] at hW0
  by_cases hl : l.length ≤ 10
  · have hl' : (l.length : Int) ≤ 10 := by omega
    go_enter Try.func6, Try.ntmps6
    go_upto_region 3 with (fail)
    rw [← hW0]
    clear hW0
    obtain ⟨s0, s1⟩ := HX.out.cc
    go_wp2_with fail
    refine (again_any m t er tries _).mono ?_
    rintro e y1 ⟨rfl, hb⟩
    replace HX := Lib.hid (HX.out.below hb)
    clear hb s0 s1
    obtain ⟨s0, s1⟩ := HX.out.cc
    generalize hag : againS m t er tries = ag at *
    go_wp2_with fail
    refine (againR_any m t er tries _).mono ?_
    rintro e y2 ⟨rfl, hb⟩
    replace HX := Lib.hid (HX.out.below hb)
    clear hb s0 s1
    rw [hag]
    clear hag
    obtain ⟨g1, g2⟩ := ag
    simp only
    go_wp2_with fail
    refine (ready_any a l c now _ HX.out.r.row HX.out.r.mem (by omega)).mono ?_
    rintro e y3 ⟨a1, c1, l1, a2, c2, l2, rfl, hk1, hk2, hr1, hr2, hm1, hm2, hb⟩
    replace HX := Lib.hid (HX.out.below hb)
    have R1 := Lib.hid (Res.mk hr1 hm1)
    have R2 := Lib.hid (Res.mk hr2 hm2)
    clear hb hr1 hr2 hm1 hm2
    go_wp2_with fail
    refine (readyR_any a l c now _ HX.out.r.row HX.out.r.mem (by omega)).mono ?_
    rintro e y4 ⟨a3, c3, l3, a4, c4, l4, rfl, hk3, hk4, hr3, hr4, hm3, hm4, hb⟩
    replace HX := Lib.hid (HX.out.below hb)
    replace R1 := Lib.hid (R1.out.below hb)
    replace R2 := Lib.hid (R2.out.below hb)
    have R3 := Lib.hid (Res.mk hr3 hm3)
    have R4 := Lib.hid (Res.mk hr4 hm4)
    have K13 := Lib.hid (hk1.trans hk3.symm)
    have K24 := Lib.hid (hk2.trans hk4.symm)
    have hl1 : l1.length ≤ 10 := by have h := congrArg List.length hk1; simp only [List.length_map] at h; have h2 := List.length_filter_le (lateB now) (l.map key); rw [List.length_map] at h2; omega
    have hl2 : l2.length ≤ 10 := by have h := congrArg List.length hk2; simp only [List.length_map] at h; have h2 := List.length_filter_le (fun x => !lateB now x) (l.map key); rw [List.length_map] at h2; omega
    have e3 : l3.length = l1.length := by have h := congrArg List.length K13.out; simpa using h.symm
    have e4 : l4.length = l2.length := by have h := congrArg List.length K24.out; simpa using h.symm
    rw [e3, e4]
    clear hb hr3 hr4 hm3 hm4 hk1 hk2 hk3 hk4 e3 e4
    obtain ⟨nz, nb, hnv⟩ := nextVal_eq l
    have HN1 := Lib.hid (fun (W : World) (h : ARow W a c l) => next_any a l c W h (by omega))
    have HN2 := Lib.hid (fun (W : World) (h : ARow W a c l) => nextR_any a l c W h (by omega))
    rw [hnv] at HN1 HN2
    clear hnv
    go_wp2_with fail
    refine (HN1.out _ HX.out.r.row).mono ?_
    rintro e y5 ⟨rfl, hb⟩
    replace HX := Lib.hid (HX.out.below hb)
    replace R1 := Lib.hid (R1.out.below hb)
    replace R2 := Lib.hid (R2.out.below hb)
    replace R3 := Lib.hid (R3.out.below hb)
    replace R4 := Lib.hid (R4.out.below hb)
    clear hb HN1
    go_wp2_with fail
    refine (HN2.out _ HX.out.r.row).mono ?_
    rintro e y6 ⟨rfl, hb⟩
    replace HX := Lib.hid (HX.out.below hb)
    replace R1 := Lib.hid (R1.out.below hb)
    replace R2 := Lib.hid (R2.out.below hb)
    replace R3 := Lib.hid (R3.out.below hb)
    replace R4 := Lib.hid (R4.out.below hb)
    clear hb HN2
    go_upto_region 9 with (fail)
    replace HX := Lib.hid (HX.out.below (Below.refl _ _).drew)
    replace R1 := Lib.hid (R1.out.below (Below.refl _ _).drew)
    replace R2 := Lib.hid (R2.out.below (Below.refl _ _).drew)
    replace R3 := Lib.hid (R3.out.below (Below.refl _ _).drew)
    replace R4 := Lib.hid (R4.out.below (Below.refl _ _).drew)
    refine wp_region_held_drew (S := fun w' => w'.cell? ⟨w.heap.size, 0, none⟩ = some (.int .i64 m) ∧ w'.cell? ⟨w.heap.size, 1, none⟩ = some (.int .i64 t) ∧ Hid (w'.rangeAt (w.heap.size + 1) 0 x.cells)) (by kernel_rfl) (by (try dsimp only); exact ⟨HX.out.p.cell 0 _ rfl, HX.out.p.cell 1 _ rfl, HX.out.b.r⟩) (fun hHeld => ?_)
    refine wpAnyH_take (i := 0) (oi := { dst := some 64, op := Op.load 25 (Operand.tmp 6), type := 25, pos := "law.go:31", after := #[], guard := none }) (v := ?_) rfl (by kernel_rfl) (by kernel_rfl) (by kernel_rfl) (fun _ _ _ h => h) (Or.inl ⟨by rfl, ?_⟩) (by assumption) ?_
    rotate_left
    focus ((intro w hSw; (try dsimp only at hSw); go_simp) <;> (try with_reducible rfl))
    try simp only [Act.put, List.setIfInBounds_toArray, List.set_cons_zero, List.set_cons_succ]
    refine wpAnyH_take (i := 2) (oi := { dst := some 66, op := Op.load 25 (Operand.tmp 6), type := 25, pos := "law.go:31", after := #[], guard := none }) (v := ?_) rfl (by kernel_rfl) (by kernel_rfl) (by kernel_rfl) (fun _ _ _ h => h) (Or.inl ⟨by rfl, ?_⟩) (by assumption) ?_
    rotate_left
    focus ((intro w hSw; (try dsimp only at hSw); go_simp) <;> (try with_reducible rfl))
    try simp only [Act.put, List.setIfInBounds_toArray, List.set_cons_zero, List.set_cons_succ]
    refine wpAnyH_ready (rs := [1]) (by kernel_rfl) (by simp) ?_
    refine AllReadyH.cons (o := { dst := some 65, op := Op.call { callee := Callee.value (Operand.func 18), args := #[Operand.tmp 64], argTypes := #[25] }, type := 4, pos := "law.go:31", after := #[{ on := 0, ground := Ground.data }], guard := none }) rfl (fun K hK => ?_) AllReadyH.nil
    go_simp
    (first | (go_at_call 18; refine (valid_any m t _).mono ?_; rintro e v1 ⟨rfl, hb⟩; replace HX := Lib.hid (HX.out.below hb); replace R1 := Lib.hid (R1.out.below hb); replace R2 := Lib.hid (R2.out.below hb); replace R3 := Lib.hid (R3.out.below hb); replace R4 := Lib.hid (R4.out.below hb); clear hb))
    go_wp2_with fail
    refine hK.out _ _ (by (try dsimp only); exact ⟨HX.out.p.cell 0 _ rfl, HX.out.p.cell 1 _ rfl, HX.out.b.r⟩) (fun hHeld => ?_)
    clear hK K
    try simp only [Act.put, List.setIfInBounds_toArray, List.set_cons_zero, List.set_cons_succ]
    refine wpAnyH_ready (rs := [3]) (by kernel_rfl) (by simp) ?_
    refine AllReadyH.cons (o := { dst := some 67, op := Op.call { callee := Callee.value (Operand.func 19), args := #[Operand.tmp 66], argTypes := #[25] }, type := 4, pos := "law.go:31", after := #[{ on := 2, ground := Ground.data }, { on := 1, ground := Ground.chain }], guard := none }) rfl (fun K hK => ?_) AllReadyH.nil
    go_simp
    (first | (go_at_call 19; refine (policyR_any m t _).mono ?_; rintro e v2 ⟨rfl, hb⟩; replace HX := Lib.hid (HX.out.below hb); replace R1 := Lib.hid (R1.out.below hb); replace R2 := Lib.hid (R2.out.below hb); replace R3 := Lib.hid (R3.out.below hb); replace R4 := Lib.hid (R4.out.below hb); clear hb))
    go_wp2_with fail
    refine hK.out _ _ (by (try dsimp only); exact ⟨HX.out.p.cell 0 _ rfl, HX.out.p.cell 1 _ rfl, HX.out.b.r⟩) (fun hHeld => ?_)
    clear hK K
    try simp only [Act.put, List.setIfInBounds_toArray, List.set_cons_zero, List.set_cons_succ]
    refine wpAnyH_take (i := 4) (oi := { dst := some 68, op := Op.binOp BinOp.eql 4 (Operand.tmp 65) (Operand.tmp 67) 4, type := 4, pos := "law.go:31", after := #[{ on := 1, ground := Ground.data }, { on := 3, ground := Ground.data }], guard := none }) (v := ?_) rfl (by kernel_rfl) (by kernel_rfl) (by kernel_rfl) (fun _ _ _ h => h) (Or.inl ⟨by rfl, ?_⟩) (by assumption) ?_
    rotate_left
    focus ((intro w hSw; (try dsimp only at hSw); go_simp) <;> (try with_reducible rfl))
    try simp only [Act.put, List.setIfInBounds_toArray, List.set_cons_zero, List.set_cons_succ]
    refine wpAnyH_take (i := 5) (oi := { dst := some 69, op := Op.move (Operand.tmp 68), type := 4, pos := "law.go:31", after := #[{ on := 4, ground := Ground.data }, { on := 3, ground := Ground.chain }], guard := none }) (v := ?_) rfl (by kernel_rfl) (by kernel_rfl) (by kernel_rfl) (fun _ _ _ h => h) (Or.inl ⟨by rfl, ?_⟩) (by assumption) ?_
    rotate_left
    focus ((intro w hSw; (try dsimp only at hSw); go_simp) <;> (try with_reducible rfl))
    try simp only [Act.put, List.setIfInBounds_toArray, List.set_cons_zero, List.set_cons_succ]
    refine wpAnyH_take (i := 6) (oi := { dst := some 70, op := Op.move (Operand.tmp 13), type := 3, pos := "law.go:31", after := #[{ on := 5, ground := Ground.guard }], guard := some (5, true) }) (v := ?_) rfl (by kernel_rfl) (by kernel_rfl) (by kernel_rfl) (fun _ _ _ h => h) (Or.inl ⟨by rfl, ?_⟩) (by assumption) ?_
    rotate_left
    focus ((intro w hSw; (try dsimp only at hSw); go_simp) <;> (try with_reducible rfl))
    try simp only [Act.put, List.setIfInBounds_toArray, List.set_cons_zero, List.set_cons_succ]
    refine wpAnyH_take (i := 7) (oi := { dst := some 71, op := Op.move (Operand.tmp 15), type := 3, pos := "law.go:31", after := #[{ on := 5, ground := Ground.guard }], guard := some (5, true) }) (v := ?_) rfl (by kernel_rfl) (by kernel_rfl) (by kernel_rfl) (fun _ _ _ h => h) (Or.inl ⟨by rfl, ?_⟩) (by assumption) ?_
    rotate_left
    focus ((intro w hSw; (try dsimp only at hSw); go_simp) <;> (try with_reducible rfl))
    try simp only [Act.put, List.setIfInBounds_toArray, List.set_cons_zero, List.set_cons_succ]
    refine wpAnyH_take (i := 8) (oi := { dst := some 72, op := Op.binOp BinOp.eql 3 (Operand.tmp 70) (Operand.tmp 71) 3, type := 4, pos := "law.go:31", after := #[{ on := 6, ground := Ground.data }, { on := 7, ground := Ground.data }, { on := 5, ground := Ground.guard }], guard := some (5, true) }) (v := ?_) rfl (by kernel_rfl) (by kernel_rfl) (by kernel_rfl) (fun _ _ _ h => h) (Or.inl ⟨by rfl, ?_⟩) (by assumption) ?_
    rotate_left
    focus ((intro w hSw; (try dsimp only at hSw); go_simp) <;> (try with_reducible rfl))
    try simp only [Act.put, List.setIfInBounds_toArray, List.set_cons_zero, List.set_cons_succ]
    refine wpAnyH_take (i := 9) (oi := { dst := some 73, op := Op.pick (Operand.tmp 69) (Operand.tmp 72) (Operand.const (Value.bool false)), type := 4, pos := "law.go:31", after := #[{ on := 5, ground := Ground.data }, { on := 8, ground := Ground.data }], guard := none }) (v := ?_) rfl (by kernel_rfl) (by kernel_rfl) (by kernel_rfl) (fun _ _ _ h => h) (Or.inl ⟨by rfl, ?_⟩) (by assumption) ?_
    rotate_left
    focus ((intro w hSw; (try dsimp only at hSw); go_simp) <;> (try with_reducible rfl))
    try simp only [Act.put, List.setIfInBounds_toArray, List.set_cons_zero, List.set_cons_succ]
    refine wpAnyH_take (i := 10) (oi := { dst := some 74, op := Op.move (Operand.tmp 73), type := 4, pos := "law.go:31", after := #[{ on := 9, ground := Ground.data }, { on := 5, ground := Ground.chain }], guard := none }) (v := ?_) rfl (by kernel_rfl) (by kernel_rfl) (by kernel_rfl) (fun _ _ _ h => h) (Or.inl ⟨by rfl, ?_⟩) (by assumption) ?_
    rotate_left
    focus ((intro w hSw; (try dsimp only at hSw); go_simp) <;> (try with_reducible rfl))
    try simp only [Act.put, List.setIfInBounds_toArray, List.set_cons_zero, List.set_cons_succ]
    refine wpAnyH_take (i := 11) (oi := { dst := some 75, op := Op.move (Operand.tmp 14), type := 4, pos := "law.go:31", after := #[{ on := 10, ground := Ground.guard }], guard := some (10, true) }) (v := ?_) rfl (by kernel_rfl) (by kernel_rfl) (by kernel_rfl) (fun _ _ _ h => h) (Or.inl ⟨by rfl, ?_⟩) (by assumption) ?_
    rotate_left
    focus ((intro w hSw; (try dsimp only at hSw); go_simp) <;> (try with_reducible rfl))
    try simp only [Act.put, List.setIfInBounds_toArray, List.set_cons_zero, List.set_cons_succ]
    refine wpAnyH_take (i := 12) (oi := { dst := some 76, op := Op.move (Operand.tmp 16), type := 4, pos := "law.go:31", after := #[{ on := 10, ground := Ground.guard }], guard := some (10, true) }) (v := ?_) rfl (by kernel_rfl) (by kernel_rfl) (by kernel_rfl) (fun _ _ _ h => h) (Or.inl ⟨by rfl, ?_⟩) (by assumption) ?_
    rotate_left
    focus ((intro w hSw; (try dsimp only at hSw); go_simp) <;> (try with_reducible rfl))
    try simp only [Act.put, List.setIfInBounds_toArray, List.set_cons_zero, List.set_cons_succ]
    refine wpAnyH_take (i := 13) (oi := { dst := some 77, op := Op.binOp BinOp.eql 4 (Operand.tmp 75) (Operand.tmp 76) 4, type := 4, pos := "law.go:31", after := #[{ on := 11, ground := Ground.data }, { on := 12, ground := Ground.data }, { on := 10, ground := Ground.guard }], guard := some (10, true) }) (v := ?_) rfl (by kernel_rfl) (by kernel_rfl) (by kernel_rfl) (fun _ _ _ h => h) (Or.inl ⟨by rfl, ?_⟩) (by assumption) ?_
    rotate_left
    focus ((intro w hSw; (try dsimp only at hSw); go_simp) <;> (try with_reducible rfl))
    try simp only [Act.put, List.setIfInBounds_toArray, List.set_cons_zero, List.set_cons_succ]
    refine wpAnyH_take (i := 14) (oi := { dst := some 78, op := Op.pick (Operand.tmp 74) (Operand.tmp 77) (Operand.const (Value.bool false)), type := 4, pos := "law.go:31", after := #[{ on := 10, ground := Ground.data }, { on := 13, ground := Ground.data }], guard := none }) (v := ?_) rfl (by kernel_rfl) (by kernel_rfl) (by kernel_rfl) (fun _ _ _ h => h) (Or.inl ⟨by rfl, ?_⟩) (by assumption) ?_
    rotate_left
    focus ((intro w hSw; (try dsimp only at hSw); go_simp) <;> (try with_reducible rfl))
    try simp only [Act.put, List.setIfInBounds_toArray, List.set_cons_zero, List.set_cons_succ]
    refine wpAnyH_take (i := 15) (oi := { dst := some 79, op := Op.move (Operand.tmp 78), type := 4, pos := "law.go:31", after := #[{ on := 14, ground := Ground.data }, { on := 10, ground := Ground.chain }], guard := none }) (v := ?_) rfl (by kernel_rfl) (by kernel_rfl) (by kernel_rfl) (fun _ _ _ h => h) (Or.inl ⟨by rfl, ?_⟩) (by assumption) ?_
    rotate_left
    focus ((intro w hSw; (try dsimp only at hSw); go_simp) <;> (try with_reducible rfl))
    try simp only [Act.put, List.setIfInBounds_toArray, List.set_cons_zero, List.set_cons_succ]
    refine wpAnyH_take (i := 16) (oi := { dst := some 80, op := Op.move (Operand.tmp 4), type := 34, pos := "law.go:31", after := #[{ on := 15, ground := Ground.guard }], guard := some (15, true) }) (v := ?_) rfl (by kernel_rfl) (by kernel_rfl) (by kernel_rfl) (fun _ _ _ h => h) (Or.inl ⟨by rfl, ?_⟩) (by assumption) ?_
    rotate_left
    focus ((intro w hSw; (try dsimp only at hSw); go_simp) <;> (try with_reducible rfl))
    try simp only [Act.put, List.setIfInBounds_toArray, List.set_cons_zero, List.set_cons_succ]
    refine wpAnyH_take (i := 17) (oi := { dst := some 81, op := Op.load 40 (Operand.tmp 11), type := 40, pos := "law.go:31", after := #[{ on := 15, ground := Ground.guard }], guard := some (15, true) }) (v := .agg x.cells.toArray) rfl (by kernel_rfl) (by kernel_rfl) (by kernel_rfl) (fun _ _ _ h => h) (yieldsIf_load_mid (by rfl) 40 _ rfl (w.heap.size + 1) 0 rfl _ _ (fun w hw => hw.2.2.out) Try.underlying40 rfl size40) (by assumption) ?_
    try simp only [Act.put, List.setIfInBounds_toArray, List.set_cons_zero, List.set_cons_succ]
    refine wpAnyH_take (i := 19) (oi := { dst := some 83, op := Op.move (Operand.tmp 4), type := 34, pos := "law.go:31", after := #[{ on := 15, ground := Ground.guard }], guard := some (15, true) }) (v := ?_) rfl (by kernel_rfl) (by kernel_rfl) (by kernel_rfl) (fun _ _ _ h => h) (Or.inl ⟨by rfl, ?_⟩) (by assumption) ?_
    rotate_left
    focus ((intro w hSw; (try dsimp only at hSw); go_simp) <;> (try with_reducible rfl))
    try simp only [Act.put, List.setIfInBounds_toArray, List.set_cons_zero, List.set_cons_succ]
    refine wpAnyH_take (i := 20) (oi := { dst := some 84, op := Op.load 40 (Operand.tmp 11), type := 40, pos := "law.go:31", after := #[{ on := 15, ground := Ground.guard }], guard := some (15, true) }) (v := .agg x.cells.toArray) rfl (by kernel_rfl) (by kernel_rfl) (by kernel_rfl) (fun _ _ _ h => h) (yieldsIf_load_mid (by rfl) 40 _ rfl (w.heap.size + 1) 0 rfl _ _ (fun w hw => hw.2.2.out) Try.underlying40 rfl size40) (by assumption) ?_
    try simp only [Act.put, List.setIfInBounds_toArray, List.set_cons_zero, List.set_cons_succ]
    refine wpAnyH_ready (rs := [18]) (by kernel_rfl) (by simp) ?_
    refine AllReadyH.cons (o := { dst := some 82, op := Op.call { callee := Callee.value (Operand.func 20), args := #[Operand.tmp 80, Operand.tmp 81], argTypes := #[34, 40] }, type := 34, pos := "law.go:31", after := #[{ on := 16, ground := Ground.data }, { on := 17, ground := Ground.data }, { on := 15, ground := Ground.chain }, { on := 15, ground := Ground.guard }], guard := some (15, true) }) rfl (fun K hK => ?_) AllReadyH.nil
    go_simp
    (first | (go_at_call 20; refine (add_any a l c x _ HX.out.r.row HX.out.r.mem HX.out.x (by omega)).mono ?_; rintro e v3 ⟨a5, c5, l5, rfl, hk5, ho5, hm5, hb⟩; replace HX := Lib.hid (HX.out.below hb); replace R1 := Lib.hid (R1.out.below hb); replace R2 := Lib.hid (R2.out.below hb); replace R3 := Lib.hid (R3.out.below hb); replace R4 := Lib.hid (R4.out.below hb); obtain ⟨e5, R5⟩ := add_res ho5 hm5 hk5; have K5 := Lib.hid hk5; clear hb ho5 hm5 hk5))
    go_wp2_with fail
    refine hK.out _ _ (by (try dsimp only); exact ⟨HX.out.p.cell 0 _ rfl, HX.out.p.cell 1 _ rfl, HX.out.b.r⟩) (fun hHeld => ?_)
    clear hK K
    try simp only [Act.put, List.setIfInBounds_toArray, List.set_cons_zero, List.set_cons_succ]
    refine wpAnyH_ready (rs := [21]) (by kernel_rfl) (by simp) ?_
    refine AllReadyH.cons (o := { dst := some 85, op := Op.call { callee := Callee.value (Operand.func 21), args := #[Operand.tmp 83, Operand.tmp 84], argTypes := #[34, 40] }, type := 34, pos := "law.go:31", after := #[{ on := 19, ground := Ground.data }, { on := 20, ground := Ground.data }, { on := 18, ground := Ground.chain }, { on := 15, ground := Ground.guard }], guard := some (15, true) }) rfl (fun K hK => ?_) AllReadyH.nil
    go_simp
    (first | (go_at_call 21; refine (addR_any a l c x _ HX.out.r.row (by omega)).mono ?_; rintro e v4 ⟨a6, c6, rfl, hr6, hb⟩; replace HX := Lib.hid (HX.out.below hb); replace R1 := Lib.hid (R1.out.below hb); replace R2 := Lib.hid (R2.out.below hb); replace R3 := Lib.hid (R3.out.below hb); replace R4 := Lib.hid (R4.out.below hb); replace R5 := Lib.hid (R5.out.below hb); have R6 := Lib.hid (Res.mk hr6 (add_mem HX.out.r.mem HX.out.x)); clear hb hr6))
    go_wp2_with fail
    refine hK.out _ _ (by (try dsimp only); exact ⟨HX.out.p.cell 0 _ rfl, HX.out.p.cell 1 _ rfl, HX.out.b.r⟩) (fun hHeld => ?_)
    clear hK K
    try simp only [Act.put, List.setIfInBounds_toArray, List.set_cons_zero, List.set_cons_succ]
    refine wpAnyH_ready (rs := [22]) (by kernel_rfl) (by simp) ?_
    refine AllReadyH.cons (o := { dst := some 86, op := Op.call { callee := Callee.value (Operand.func 13), args := #[Operand.tmp 82, Operand.tmp 85], argTypes := #[34, 34] }, type := 4, pos := "law.go:31", after := #[{ on := 18, ground := Ground.data }, { on := 21, ground := Ground.data }, { on := 21, ground := Ground.chain }, { on := 15, ground := Ground.guard }], guard := some (15, true) }) rfl (fun K hK => ?_) AllReadyH.nil
    go_simp
    (first | (go_at_call 13; refine (same_res (l.length + 1) e5.out R5.out R6.out (K5.out.trans (add_keys l x).symm) (by omega)).mono ?_; rintro e v5 ⟨rfl, hb⟩; replace HX := Lib.hid (HX.out.below hb); replace R1 := Lib.hid (R1.out.below hb); replace R2 := Lib.hid (R2.out.below hb); replace R3 := Lib.hid (R3.out.below hb); replace R4 := Lib.hid (R4.out.below hb); clear hb R5 R6 K5))
    go_wp2_with fail
    refine hK.out _ _ (by (try dsimp only); exact ⟨HX.out.p.cell 0 _ rfl, HX.out.p.cell 1 _ rfl, HX.out.b.r⟩) (fun hHeld => ?_)
    clear hK K
    try simp only [Act.put, List.setIfInBounds_toArray, List.set_cons_zero, List.set_cons_succ]
    refine wpAnyH_take (i := 23) (oi := { dst := some 87, op := Op.pick (Operand.tmp 79) (Operand.tmp 86) (Operand.const (Value.bool false)), type := 4, pos := "law.go:31", after := #[{ on := 15, ground := Ground.data }, { on := 22, ground := Ground.data }], guard := none }) (v := ?_) rfl (by kernel_rfl) (by kernel_rfl) (by kernel_rfl) (fun _ _ _ h => h) (Or.inl ⟨by rfl, ?_⟩) (by assumption) ?_
    rotate_left
    focus ((intro w hSw; (try dsimp only at hSw); go_simp) <;> (try with_reducible rfl))
    try simp only [Act.put, List.setIfInBounds_toArray, List.set_cons_zero, List.set_cons_succ]
    refine wpAnyH_take (i := 24) (oi := { dst := some 88, op := Op.move (Operand.tmp 87), type := 4, pos := "law.go:31", after := #[{ on := 23, ground := Ground.data }, { on := 22, ground := Ground.chain }], guard := none }) (v := ?_) rfl (by kernel_rfl) (by kernel_rfl) (by kernel_rfl) (fun _ _ _ h => h) (Or.inl ⟨by rfl, ?_⟩) (by assumption) ?_
    rotate_left
    focus ((intro w hSw; (try dsimp only at hSw); go_simp) <;> (try with_reducible rfl))
    try simp only [Act.put, List.setIfInBounds_toArray, List.set_cons_zero, List.set_cons_succ]
    refine wpAnyH_take (i := 25) (oi := { dst := some 89, op := Op.move (Operand.tmp 17), type := 34, pos := "law.go:31", after := #[{ on := 24, ground := Ground.guard }], guard := some (24, true) }) (v := ?_) rfl (by kernel_rfl) (by kernel_rfl) (by kernel_rfl) (fun _ _ _ h => h) (Or.inl ⟨by rfl, ?_⟩) (by assumption) ?_
    rotate_left
    focus ((intro w hSw; (try dsimp only at hSw); go_simp) <;> (try with_reducible rfl))
    try simp only [Act.put, List.setIfInBounds_toArray, List.set_cons_zero, List.set_cons_succ]
    refine wpAnyH_take (i := 26) (oi := { dst := some 90, op := Op.move (Operand.tmp 19), type := 34, pos := "law.go:31", after := #[{ on := 24, ground := Ground.guard }], guard := some (24, true) }) (v := ?_) rfl (by kernel_rfl) (by kernel_rfl) (by kernel_rfl) (fun _ _ _ h => h) (Or.inl ⟨by rfl, ?_⟩) (by assumption) ?_
    rotate_left
    focus ((intro w hSw; (try dsimp only at hSw); go_simp) <;> (try with_reducible rfl))
    try simp only [Act.put, List.setIfInBounds_toArray, List.set_cons_zero, List.set_cons_succ]
    refine wpAnyH_ready (rs := [27]) (by kernel_rfl) (by simp) ?_
    refine AllReadyH.cons (o := { dst := some 91, op := Op.call { callee := Callee.value (Operand.func 13), args := #[Operand.tmp 89, Operand.tmp 90], argTypes := #[34, 34] }, type := 4, pos := "law.go:31", after := #[{ on := 25, ground := Ground.data }, { on := 26, ground := Ground.data }, { on := 24, ground := Ground.chain }, { on := 24, ground := Ground.guard }], guard := some (24, true) }) rfl (fun K hK => ?_) AllReadyH.nil
    go_simp
    (first | (go_at_call 13; refine (same_res l1.length rfl R1.out R3.out K13.out (by omega)).mono ?_; rintro e v6 ⟨rfl, hb⟩; replace HX := Lib.hid (HX.out.below hb); replace R2 := Lib.hid (R2.out.below hb); replace R4 := Lib.hid (R4.out.below hb); clear hb R1 R3 K13))
    go_wp2_with fail
    refine hK.out _ _ (by (try dsimp only); exact ⟨HX.out.p.cell 0 _ rfl, HX.out.p.cell 1 _ rfl, HX.out.b.r⟩) (fun hHeld => ?_)
    clear hK K
    try simp only [Act.put, List.setIfInBounds_toArray, List.set_cons_zero, List.set_cons_succ]
    refine wpAnyH_take (i := 28) (oi := { dst := some 92, op := Op.pick (Operand.tmp 88) (Operand.tmp 91) (Operand.const (Value.bool false)), type := 4, pos := "law.go:31", after := #[{ on := 24, ground := Ground.data }, { on := 27, ground := Ground.data }], guard := none }) (v := ?_) rfl (by kernel_rfl) (by kernel_rfl) (by kernel_rfl) (fun _ _ _ h => h) (Or.inl ⟨by rfl, ?_⟩) (by assumption) ?_
    rotate_left
    focus ((intro w hSw; (try dsimp only at hSw); go_simp) <;> (try with_reducible rfl))
    try simp only [Act.put, List.setIfInBounds_toArray, List.set_cons_zero, List.set_cons_succ]
    refine wpAnyH_take (i := 29) (oi := { dst := some 93, op := Op.move (Operand.tmp 92), type := 4, pos := "law.go:31", after := #[{ on := 28, ground := Ground.data }, { on := 27, ground := Ground.chain }], guard := none }) (v := ?_) rfl (by kernel_rfl) (by kernel_rfl) (by kernel_rfl) (fun _ _ _ h => h) (Or.inl ⟨by rfl, ?_⟩) (by assumption) ?_
    rotate_left
    focus ((intro w hSw; (try dsimp only at hSw); go_simp) <;> (try with_reducible rfl))
    try simp only [Act.put, List.setIfInBounds_toArray, List.set_cons_zero, List.set_cons_succ]
    refine wpAnyH_take (i := 30) (oi := { dst := some 94, op := Op.move (Operand.tmp 18), type := 34, pos := "law.go:31", after := #[{ on := 29, ground := Ground.guard }], guard := some (29, true) }) (v := ?_) rfl (by kernel_rfl) (by kernel_rfl) (by kernel_rfl) (fun _ _ _ h => h) (Or.inl ⟨by rfl, ?_⟩) (by assumption) ?_
    rotate_left
    focus ((intro w hSw; (try dsimp only at hSw); go_simp) <;> (try with_reducible rfl))
    try simp only [Act.put, List.setIfInBounds_toArray, List.set_cons_zero, List.set_cons_succ]
    refine wpAnyH_take (i := 31) (oi := { dst := some 95, op := Op.move (Operand.tmp 20), type := 34, pos := "law.go:31", after := #[{ on := 29, ground := Ground.guard }], guard := some (29, true) }) (v := ?_) rfl (by kernel_rfl) (by kernel_rfl) (by kernel_rfl) (fun _ _ _ h => h) (Or.inl ⟨by rfl, ?_⟩) (by assumption) ?_
    rotate_left
    focus ((intro w hSw; (try dsimp only at hSw); go_simp) <;> (try with_reducible rfl))
    try simp only [Act.put, List.setIfInBounds_toArray, List.set_cons_zero, List.set_cons_succ]
    refine wpAnyH_ready (rs := [32]) (by kernel_rfl) (by simp) ?_
    refine AllReadyH.cons (o := { dst := some 96, op := Op.call { callee := Callee.value (Operand.func 13), args := #[Operand.tmp 94, Operand.tmp 95], argTypes := #[34, 34] }, type := 4, pos := "law.go:31", after := #[{ on := 30, ground := Ground.data }, { on := 31, ground := Ground.data }, { on := 29, ground := Ground.chain }, { on := 29, ground := Ground.guard }], guard := some (29, true) }) rfl (fun K hK => ?_) AllReadyH.nil
    go_simp
    (first | (go_at_call 13; refine (same_res l2.length rfl R2.out R4.out K24.out (by omega)).mono ?_; rintro e v7 ⟨rfl, hb⟩; replace HX := Lib.hid (HX.out.below hb); clear hb R2 R4 K24))
    go_wp2_with fail
    refine hK.out _ _ (by (try dsimp only); exact ⟨HX.out.p.cell 0 _ rfl, HX.out.p.cell 1 _ rfl, HX.out.b.r⟩) (fun hHeld => ?_)
    clear hK K
    try simp only [Act.put, List.setIfInBounds_toArray, List.set_cons_zero, List.set_cons_succ]
    refine wpAnyH_take (i := 33) (oi := { dst := some 97, op := Op.pick (Operand.tmp 93) (Operand.tmp 96) (Operand.const (Value.bool false)), type := 4, pos := "law.go:31", after := #[{ on := 29, ground := Ground.data }, { on := 32, ground := Ground.data }], guard := none }) (v := ?_) rfl (by kernel_rfl) (by kernel_rfl) (by kernel_rfl) (fun _ _ _ h => h) (Or.inl ⟨by rfl, ?_⟩) (by assumption) ?_
    rotate_left
    focus ((intro w hSw; (try dsimp only at hSw); go_simp) <;> (try with_reducible rfl))
    try simp only [Act.put, List.setIfInBounds_toArray, List.set_cons_zero, List.set_cons_succ]
    refine wpAnyH_take (i := 34) (oi := { dst := some 98, op := Op.move (Operand.tmp 97), type := 4, pos := "law.go:31", after := #[{ on := 33, ground := Ground.data }, { on := 32, ground := Ground.chain }], guard := none }) (v := ?_) rfl (by kernel_rfl) (by kernel_rfl) (by kernel_rfl) (fun _ _ _ h => h) (Or.inl ⟨by rfl, ?_⟩) (by assumption) ?_
    rotate_left
    focus ((intro w hSw; (try dsimp only at hSw); go_simp) <;> (try with_reducible rfl))
    try simp only [Act.put, List.setIfInBounds_toArray, List.set_cons_zero, List.set_cons_succ]
    refine wpAnyH_take (i := 35) (oi := { dst := some 99, op := Op.move (Operand.tmp 21), type := 3, pos := "law.go:31", after := #[{ on := 34, ground := Ground.guard }], guard := some (34, true) }) (v := ?_) rfl (by kernel_rfl) (by kernel_rfl) (by kernel_rfl) (fun _ _ _ h => h) (Or.inl ⟨by rfl, ?_⟩) (by assumption) ?_
    rotate_left
    focus ((intro w hSw; (try dsimp only at hSw); go_simp) <;> (try with_reducible rfl))
    try simp only [Act.put, List.setIfInBounds_toArray, List.set_cons_zero, List.set_cons_succ]
    refine wpAnyH_take (i := 36) (oi := { dst := some 100, op := Op.move (Operand.tmp 23), type := 3, pos := "law.go:31", after := #[{ on := 34, ground := Ground.guard }], guard := some (34, true) }) (v := ?_) rfl (by kernel_rfl) (by kernel_rfl) (by kernel_rfl) (fun _ _ _ h => h) (Or.inl ⟨by rfl, ?_⟩) (by assumption) ?_
    rotate_left
    focus ((intro w hSw; (try dsimp only at hSw); go_simp) <;> (try with_reducible rfl))
    try simp only [Act.put, List.setIfInBounds_toArray, List.set_cons_zero, List.set_cons_succ]
    refine wpAnyH_take (i := 37) (oi := { dst := some 101, op := Op.binOp BinOp.eql 3 (Operand.tmp 99) (Operand.tmp 100) 3, type := 4, pos := "law.go:31", after := #[{ on := 35, ground := Ground.data }, { on := 36, ground := Ground.data }, { on := 34, ground := Ground.guard }], guard := some (34, true) }) (v := ?_) rfl (by kernel_rfl) (by kernel_rfl) (by kernel_rfl) (fun _ _ _ h => h) (Or.inl ⟨by rfl, ?_⟩) (by assumption) ?_
    rotate_left
    focus ((intro w hSw; (try dsimp only at hSw); go_simp) <;> (try with_reducible rfl))
    try simp only [Act.put, List.setIfInBounds_toArray, List.set_cons_zero, List.set_cons_succ]
    refine wpAnyH_take (i := 38) (oi := { dst := some 102, op := Op.pick (Operand.tmp 98) (Operand.tmp 101) (Operand.const (Value.bool false)), type := 4, pos := "law.go:31", after := #[{ on := 34, ground := Ground.data }, { on := 37, ground := Ground.data }], guard := none }) (v := ?_) rfl (by kernel_rfl) (by kernel_rfl) (by kernel_rfl) (fun _ _ _ h => h) (Or.inl ⟨by rfl, ?_⟩) (by assumption) ?_
    rotate_left
    focus ((intro w hSw; (try dsimp only at hSw); go_simp) <;> (try with_reducible rfl))
    try simp only [Act.put, List.setIfInBounds_toArray, List.set_cons_zero, List.set_cons_succ]
    refine wpAnyH_take (i := 39) (oi := { dst := some 103, op := Op.move (Operand.tmp 102), type := 4, pos := "law.go:31", after := #[{ on := 38, ground := Ground.data }, { on := 34, ground := Ground.chain }], guard := none }) (v := ?_) rfl (by kernel_rfl) (by kernel_rfl) (by kernel_rfl) (fun _ _ _ h => h) (Or.inl ⟨by rfl, ?_⟩) (by assumption) ?_
    rotate_left
    focus ((intro w hSw; (try dsimp only at hSw); go_simp) <;> (try with_reducible rfl))
    try simp only [Act.put, List.setIfInBounds_toArray, List.set_cons_zero, List.set_cons_succ]
    refine wpAnyH_take (i := 40) (oi := { dst := some 104, op := Op.move (Operand.tmp 22), type := 4, pos := "law.go:31", after := #[{ on := 39, ground := Ground.guard }], guard := some (39, true) }) (v := ?_) rfl (by kernel_rfl) (by kernel_rfl) (by kernel_rfl) (fun _ _ _ h => h) (Or.inl ⟨by rfl, ?_⟩) (by assumption) ?_
    rotate_left
    focus ((intro w hSw; (try dsimp only at hSw); go_simp) <;> (try with_reducible rfl))
    try simp only [Act.put, List.setIfInBounds_toArray, List.set_cons_zero, List.set_cons_succ]
    refine wpAnyH_take (i := 41) (oi := { dst := some 105, op := Op.move (Operand.tmp 24), type := 4, pos := "law.go:31", after := #[{ on := 39, ground := Ground.guard }], guard := some (39, true) }) (v := ?_) rfl (by kernel_rfl) (by kernel_rfl) (by kernel_rfl) (fun _ _ _ h => h) (Or.inl ⟨by rfl, ?_⟩) (by assumption) ?_
    rotate_left
    focus ((intro w hSw; (try dsimp only at hSw); go_simp) <;> (try with_reducible rfl))
    try simp only [Act.put, List.setIfInBounds_toArray, List.set_cons_zero, List.set_cons_succ]
    refine wpAnyH_take (i := 42) (oi := { dst := some 106, op := Op.binOp BinOp.eql 4 (Operand.tmp 104) (Operand.tmp 105) 4, type := 4, pos := "law.go:31", after := #[{ on := 40, ground := Ground.data }, { on := 41, ground := Ground.data }, { on := 39, ground := Ground.guard }], guard := some (39, true) }) (v := ?_) rfl (by kernel_rfl) (by kernel_rfl) (by kernel_rfl) (fun _ _ _ h => h) (Or.inl ⟨by rfl, ?_⟩) (by assumption) ?_
    rotate_left
    focus ((intro w hSw; (try dsimp only at hSw); go_simp) <;> (try with_reducible rfl))
    try simp only [Act.put, List.setIfInBounds_toArray, List.set_cons_zero, List.set_cons_succ]
    refine wpAnyH_take (i := 43) (oi := { dst := some 107, op := Op.pick (Operand.tmp 103) (Operand.tmp 106) (Operand.const (Value.bool false)), type := 4, pos := "law.go:31", after := #[{ on := 39, ground := Ground.data }, { on := 42, ground := Ground.data }], guard := none }) (v := ?_) rfl (by kernel_rfl) (by kernel_rfl) (by kernel_rfl) (fun _ _ _ h => h) (Or.inl ⟨by rfl, ?_⟩) (by assumption) ?_
    rotate_left
    focus ((intro w hSw; (try dsimp only at hSw); go_simp) <;> (try with_reducible rfl))
    try simp only [Act.put, List.setIfInBounds_toArray, List.set_cons_zero, List.set_cons_succ]
    refine wpAnyH_take (i := 44) (oi := { dst := some 108, op := Op.move (Operand.tmp 107), type := 4, pos := "law.go:31", after := #[{ on := 43, ground := Ground.data }, { on := 39, ground := Ground.chain }], guard := none }) (v := ?_) rfl (by kernel_rfl) (by kernel_rfl) (by kernel_rfl) (fun _ _ _ h => h) (Or.inl ⟨by rfl, ?_⟩) (by assumption) ?_
    rotate_left
    focus ((intro w hSw; (try dsimp only at hSw); go_simp) <;> (try with_reducible rfl))
    try simp only [Act.put, List.setIfInBounds_toArray, List.set_cons_zero, List.set_cons_succ]
    refine wpAnyH_ready (rs := [45]) (by kernel_rfl) (by simp) ?_
    refine AllReadyH.cons (o := { dst := some 109, op := Op.call { callee := Callee.value (Operand.func 10), args := #[], argTypes := #[] }, type := 4, pos := "law.go:31", after := #[{ on := 44, ground := Ground.chain }, { on := 44, ground := Ground.guard }], guard := some (44, true) }) rfl (fun K hK => ?_) AllReadyH.nil
    go_simp
    (first | (go_at_call 10; refine (awake_any _).mono ?_; rintro e v8 ⟨rfl, hb⟩; replace HX := Lib.hid (HX.out.below hb); clear hb))
    go_wp2_with fail
    refine hK.out _ _ (by (try dsimp only); exact ⟨HX.out.p.cell 0 _ rfl, HX.out.p.cell 1 _ rfl, HX.out.b.r⟩) (fun hHeld => ?_)
    clear hK K
    try simp only [Act.put, List.setIfInBounds_toArray, List.set_cons_zero, List.set_cons_succ]
    refine wpAnyH_take (i := 46) (oi := { dst := some 110, op := Op.pick (Operand.tmp 108) (Operand.tmp 109) (Operand.const (Value.bool false)), type := 4, pos := "law.go:31", after := #[{ on := 44, ground := Ground.data }, { on := 45, ground := Ground.data }], guard := none }) (v := ?_) rfl (by kernel_rfl) (by kernel_rfl) (by kernel_rfl) (fun _ _ _ h => h) (Or.inl ⟨by rfl, ?_⟩) (by assumption) ?_
    rotate_left
    focus ((intro w hSw; (try dsimp only at hSw); go_simp) <;> (try with_reducible rfl))
    try simp only [Act.put, List.setIfInBounds_toArray, List.set_cons_zero, List.set_cons_succ]
    refine wpAnyH_take (i := 47) (oi := { dst := some 12, op := Op.assign (Operand.tmp 110), type := 4, pos := "law.go:31", after := #[{ on := 46, ground := Ground.data }, { on := 45, ground := Ground.chain }, { on := 0, ground := Ground.phase }, { on := 1, ground := Ground.phase }, { on := 2, ground := Ground.phase }, { on := 3, ground := Ground.phase }, { on := 4, ground := Ground.phase }, { on := 5, ground := Ground.phase }, { on := 6, ground := Ground.phase }, { on := 7, ground := Ground.phase }, { on := 8, ground := Ground.phase }, { on := 9, ground := Ground.phase }, { on := 10, ground := Ground.phase }, { on := 11, ground := Ground.phase }, { on := 12, ground := Ground.phase }, { on := 13, ground := Ground.phase }, { on := 14, ground := Ground.phase }, { on := 15, ground := Ground.phase }, { on := 16, ground := Ground.phase }, { on := 17, ground := Ground.phase }, { on := 18, ground := Ground.phase }, { on := 19, ground := Ground.phase }, { on := 20, ground := Ground.phase }, { on := 21, ground := Ground.phase }, { on := 22, ground := Ground.phase }, { on := 23, ground := Ground.phase }, { on := 24, ground := Ground.phase }, { on := 25, ground := Ground.phase }, { on := 26, ground := Ground.phase }, { on := 27, ground := Ground.phase }, { on := 28, ground := Ground.phase }, { on := 29, ground := Ground.phase }, { on := 30, ground := Ground.phase }, { on := 31, ground := Ground.phase }, { on := 32, ground := Ground.phase }, { on := 33, ground := Ground.phase }, { on := 34, ground := Ground.phase }, { on := 35, ground := Ground.phase }, { on := 36, ground := Ground.phase }, { on := 37, ground := Ground.phase }, { on := 38, ground := Ground.phase }, { on := 39, ground := Ground.phase }, { on := 40, ground := Ground.phase }, { on := 41, ground := Ground.phase }, { on := 42, ground := Ground.phase }, { on := 43, ground := Ground.phase }, { on := 44, ground := Ground.phase }, { on := 45, ground := Ground.phase }, { on := 46, ground := Ground.phase }], guard := none }) (v := ?_) rfl (by kernel_rfl) (by kernel_rfl) (by kernel_rfl) (fun _ _ _ h => h) (Or.inl ⟨by rfl, ?_⟩) (by assumption) ?_
    rotate_left
    focus ((intro w hSw; (try dsimp only at hSw); go_simp) <;> (try with_reducible rfl))
    try simp only [Act.put, List.setIfInBounds_toArray, List.set_cons_zero, List.set_cons_succ]
    refine wpAnyH_done (by kernel_rfl) ?_ _
    go_wp2_with fail
    go_ret
    exact RetW.mk rfl HX.out.bel
  · have hl' : (10 : Int) < (l.length : Int) := by omega
    have HBel := HX.out.bel
    clear HX
    go_enter Try.func6, Try.ntmps6
    go_wp2_with fail
    go_ret
    rw [← hW0]
    exact RetW.mk rfl HBel
end Go.Proofs.Ythfjlojikbgnfaa
