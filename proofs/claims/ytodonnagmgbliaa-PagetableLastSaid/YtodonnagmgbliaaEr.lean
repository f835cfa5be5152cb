/- Entering an entry as the document has it. -/
import Derived.Test.YtodonnagmgbliaaEn
namespace Go.Proofs.Ytodonnagmgbliaa
open Go.ChangeShapes Go.WideShapes Go.ChangeAt Go.RowKit

set_option maxHeartbeats 8000000 in
theorem enterR_any (B : Nat) (b : Option Addr) (l : List Ar) (cap : Nat) (e : Ar) (w : World) (h : ARow B b cap l w) (hl : l.length ≤ 100) (hBw : B ≤ w.heap.size) :
    Calls Try.prog 11 #[.slice b l.length cap, arVal e] w fun e' w' => ∃ b' c', e' = .returned (.tuple #[.slice b' (enterL l e).length c', .int .i64 (enterE l e)]) ∧ (ARow w.heap.size b' c' (enterL l e) w' ∨ (b' = b ∧ c' = cap ∧ enterL l e = l)) ∧ Below w.heap.size w w' := by
  have HA : Hid (∀ W, Below w.heap.size w W → ∀ j, j < l.length → ∃ g, b = some ⟨g, 0, none⟩ ∧ g < w.heap.size ∧ (l.length : Int) ≤ cap ∧ Cel W g (j * 5) (l.getD j Ar.zero)) := by
    intro W hb j hj
    obtain ⟨g, h1, h2, h3, h4, h5, h6⟩ := h.at (by omega)
    exact ⟨g, h1, h3, by omega, (h6 j hj).eq (fun i => hb.cell (p := ⟨g, i, none⟩) h3)⟩
  have HCK : Hid (∀ W, Below w.heap.size w W → Calls Try.prog 17 #[.slice b l.length cap] W (RetW (.bool (checkV l)) W)) := fun W hb => checkR_any B b l cap W (h.below hb) hl
  have HRI := Lib.hid (fun w => rightR_any e w)
  have HV1 : Hid (checkV l = false → enterL l e = l ∧ enterE l e = 1) := fun hc => by unfold enterL enterE; rw [hc]; exact ⟨rfl, rfl⟩
  have HV2 : Hid (checkV l = true → rightB e = false → enterL l e = l ∧ enterE l e = 2) := fun hc hr => by unfold enterL enterE; rw [hc, hr]; exact ⟨rfl, rfl⟩
  have HV3 : Hid (checkV l = true → rightB e = true → enterL l e = refV l e ∧ enterE l e = 0) := fun hc hr => by unfold enterL enterE; rw [hc, hr, refV_eq (checkV_sorted hc)]; exact ⟨rfl, rfl⟩
  have HRV : Hid (refV l e = if (refTo l e l.length).2 = true then (refTo l e l.length).1 else (refTo l e l.length).1 ++ [e]) := rfl
  have HL1 := Lib.hid (fun x w => less_any x e w)
  have HL2 := Lib.hid (fun x w => less_any e x w)
  clear h
  obtain ⟨i0, hi, hz0, hz1, hz2⟩ := info_parts area_info
  unfold arVal at HRI HL1 HL2 ⊢
  obtain ⟨s, c, f, p, q⟩ := e
  simp only at HRI HL1 HL2 ⊢
  go_enter Try.func11, Try.ntmps11
  go_wp2_with fail
  have hbl := Blk.new w s c f p q
  have HB : Hid (Below w.heap.size w (w.alloc (Obj.cells #[Value.int IntKind.i64 s, Value.int IntKind.i64 c, Value.int IntKind.i64 f, Value.bool p, Value.bool q] 30))) := (Below.refl _ w).alloc (Nat.le_refl _) _
  generalize w.alloc (Obj.cells #[Value.int IntKind.i64 s, Value.int IntKind.i64 c, Value.int IntKind.i64 f, Value.bool p, Value.bool q] 30) = w1 at *
  refine (HCK.out _ HB.out).mono ?_; rintro e w2 ⟨rfl, hb⟩
  have HPB := Lib.hid (hbl.below hb)
  replace HB := Lib.hid (HB.out.trans (hb.mono HB.out.size))
  clear hbl hb HCK
  cases hcv : checkV l with
  | false =>
    obtain ⟨hv1, hv2⟩ := HV1.out hcv
    have HVV1 := Lib.hid hv1; have HVV2 := Lib.hid hv2
    clear HV1 HV2 HV3 hv1 hv2
    go_wp2_with fail
    go_ret2
    exact ⟨b, cap, by rw [HVV1.out, HVV2.out]; rfl, by rw [HVV1.out]; exact Or.inr ⟨rfl, rfl, rfl⟩, HB.out⟩
  | true =>
    replace HV2 := Lib.hid (HV2.out hcv); replace HV3 := Lib.hid (HV3.out hcv)
    clear HV1 hcv
    have c0 := HPB.out.c0; have c1 := HPB.out.c1; have c2 := HPB.out.c2; have c3 := HPB.out.c3; have c4 := HPB.out.c4
    simp only at c0 c1 c2 c3 c4
    go_wp2_with fail
    refine (HRI.out _).mono ?_; rintro e w4 ⟨rfl, hb⟩
    clear c0 c1 c2 c3 c4 HRI
    replace HB := Lib.hid (HB.out.trans (hb.mono HB.out.size))
    replace HPB := Lib.hid (HPB.out.below hb)
    clear hb
    cases hrv : rightB ⟨s, c, f, p, q⟩ with
    | false =>
      obtain ⟨hv1, hv2⟩ := HV2.out hrv
      have HVV1 := Lib.hid hv1; have HVV2 := Lib.hid hv2
      clear HV2 HV3 hv1 hv2
      go_wp2_with fail
      go_ret2
      exact ⟨b, cap, by rw [HVV1.out, HVV2.out]; rfl, by rw [HVV1.out]; exact Or.inr ⟨rfl, rfl, rfl⟩, HB.out⟩
    | true =>
      obtain ⟨hv1, hv2⟩ := HV3.out hrv
      have HVV1 := Lib.hid hv1; have HVV2 := Lib.hid hv2
      clear HV2 HV3 hv1 hv2 hrv
      go_wp2_with fail
      go_loopw [6, 7, 8] (fun v6 v7 v8 wr => ∃ k : Nat, k ≤ l.length ∧ v8 = .int .i64 k ∧ v7 = .bool (refTo l ⟨s, c, f, p, q⟩ k).2 ∧ Hid (Below w.heap.size w wr) ∧ Hid (Blk wr w.heap.size ⟨s, c, f, p, q⟩) ∧ Hid (wr.ownsRow (w.heap.size + 1) 30 5 v6 (refTo l ⟨s, c, f, p, q⟩ k).1.length (flat (refTo l ⟨s, c, f, p, q⟩ k).1))) (fun _ _ v8 _ => 200 - (intOf v8).toNat)
      case atStart => exact ⟨0, Nat.zero_le _, rfl, rfl, HB, HPB, World.ownsRow_nil _ _ _ _⟩
      case round =>
        clear HB HPB
        obtain ⟨k, hk, rfl, rfl, HB, HPB, HO⟩ := hrel
        have hrl := refTo_len l ⟨s, c, f, p, q⟩ k
        by_cases hlt : k < l.length
        · have hlt' : (k : Int) < (l.length : Int) := by omega
          obtain ⟨g, rfl, hg, hcap, _⟩ := HA.out _ HB.out k hlt
          have HXC : Hid (∀ W, Below w.heap.size w W → Cel W g (k * 5) (l.getD k Ar.zero)) := fun W hb => by
            obtain ⟨g2, he, _, _, hc⟩ := HA.out W hb k hlt
            cases he
            exact hc
          have HSU : Hid (refTo l ⟨s, c, f, p, q⟩ (k + 1) = ((if (!(refTo l ⟨s, c, f, p, q⟩ k).2 && !lessB (l.getD k Ar.zero) ⟨s, c, f, p, q⟩) = true then (refTo l ⟨s, c, f, p, q⟩ k).1 ++ [⟨s, c, f, p, q⟩] else (refTo l ⟨s, c, f, p, q⟩ k).1) ++ (if (lessB (l.getD k Ar.zero) ⟨s, c, f, p, q⟩ || lessB ⟨s, c, f, p, q⟩ (l.getD k Ar.zero)) = true then [l.getD k Ar.zero] else []), (refTo l ⟨s, c, f, p, q⟩ k).2 || !lessB (l.getD k Ar.zero) ⟨s, c, f, p, q⟩)) := rfl
          clear HA HRV HVV1 HVV2
          generalize (refTo l ⟨s, c, f, p, q⟩ k).1 = L at *
          generalize (refTo l ⟨s, c, f, p, q⟩ k).2 = pl at *
          generalize l.getD k Ar.zero = e at *
          have hla := HL1.out e
          have hlb := HL2.out e
          obtain ⟨es, ec, ef, ep, eb⟩ := e
          simp only at hla hlb
          generalize lessB ⟨es, ec, ef, ep, eb⟩ ⟨s, c, f, p, q⟩ = b1 at *
          generalize lessB ⟨s, c, f, p, q⟩ ⟨es, ec, ef, ep, eb⟩ = b2 at *
          have HLA := Lib.hid hla
          have HLB := Lib.hid hlb
          clear hla hlb HL1 HL2
          have dd0 := HPB.out.c0; have dd1 := HPB.out.c1; have dd2 := HPB.out.c2; have dd3 := HPB.out.c3; have dd4 := HPB.out.c4
          simp only at dd0 dd1 dd2 dd3 dd4
          obtain ⟨k0, k1, k2, k3, k4⟩ := HXC.out _ HB.out
          simp only at k0 k1 k2 k3 k4
          have hA := HPB.out.hi
          have hg2 := Nat.lt_of_lt_of_le hg HB.out.size
          cases pl with
          | true =>
            cases b1 with
            | true =>
              have HS := Lib.hid HSU.out
              clear HSU
              simp only [Bool.not_false, Bool.not_true, Bool.and_true, Bool.true_and, Bool.and_false, Bool.false_and, Bool.or_true, Bool.true_or, Bool.or_false, Bool.false_or, Bool.false_eq_true, if_true, if_false, List.append_nil] at HS
              go_wp2_with fail
              have HBd := Lib.hid HB.out.drew
              have HPd := Lib.hid (HPB.out.below (Below.refl _ _).drew)
              have HOd := Lib.hid (ownsRow_below HO.out (Below.refl _ _).drew)
              refine wp_region_held_drew (S := fun w' => w'.cell? ⟨w.heap.size, 0, none⟩ = some (.int .i64 s) ∧ w'.cell? ⟨w.heap.size, 1, none⟩ = some (.int .i64 c) ∧ w'.cell? ⟨w.heap.size, 2, none⟩ = some (.int .i64 f) ∧ w'.cell? ⟨w.heap.size, 3, none⟩ = some (.bool p) ∧ w'.cell? ⟨w.heap.size, 4, none⟩ = some (.bool q) ∧ w'.cell? ⟨g, k * 5, none⟩ = some (.int .i64 es) ∧ w'.cell? ⟨g, k * 5 + 1, none⟩ = some (.int .i64 ec) ∧ w'.cell? ⟨g, k * 5 + 2, none⟩ = some (.int .i64 ef) ∧ w'.cell? ⟨g, k * 5 + 3, none⟩ = some (.bool ep) ∧ w'.cell? ⟨g, k * 5 + 4, none⟩ = some (.bool eb)) (by kernel_rfl) (by (try dsimp only); go_keep) (fun hHeld => ?_)
              refine wpAnyH_take (i := 0) (oi := { dst := some 23, op := Op.move (Operand.tmp 7), type := 4, pos := "ref.go:49", after := #[], guard := none }) (v := ?_) rfl (by kernel_rfl) (by kernel_rfl) (by kernel_rfl) (fun _ _ _ h => h) (Or.inl ⟨by rfl, ?_⟩) (by assumption) ?_
              rotate_left
              focus ((intro w hSw; (try dsimp only at hSw); go_simp) <;> (try with_reducible rfl))
              try simp only [Act.put, List.setIfInBounds_toArray, List.set_cons_zero, List.set_cons_succ]
              refine wpAnyH_take (i := 1) (oi := { dst := some 24, op := Op.unOp UnOp.not 4 (Operand.tmp 23), type := 4, pos := "ref.go:49", after := #[{ on := 0, ground := Ground.data }], guard := none }) (v := ?_) rfl (by kernel_rfl) (by kernel_rfl) (by kernel_rfl) (fun _ _ _ h => h) (Or.inl ⟨by rfl, ?_⟩) (by assumption) ?_
              rotate_left
              focus ((intro w hSw; (try dsimp only at hSw); go_simp) <;> (try with_reducible rfl))
              try simp only [Act.put, List.setIfInBounds_toArray, List.set_cons_zero, List.set_cons_succ]
              refine wpAnyH_take (i := 2) (oi := { dst := some 25, op := Op.move (Operand.tmp 24), type := 4, pos := "ref.go:49", after := #[{ on := 1, ground := Ground.data }], guard := none }) (v := ?_) rfl (by kernel_rfl) (by kernel_rfl) (by kernel_rfl) (fun _ _ _ h => h) (Or.inl ⟨by rfl, ?_⟩) (by assumption) ?_
              rotate_left
              focus ((intro w hSw; (try dsimp only at hSw); go_simp) <;> (try with_reducible rfl))
              try simp only [Act.put, List.setIfInBounds_toArray, List.set_cons_zero, List.set_cons_succ]
              refine wpAnyH_take (i := 3) (oi := { dst := some 26, op := Op.move (Operand.tmp 0), type := 26, pos := "ref.go:49", after := #[{ on := 2, ground := Ground.guard }], guard := some (2, true) }) (v := undef) rfl (by kernel_rfl) (by kernel_rfl) (by kernel_rfl) (fun _ _ _ h => h) (Or.inr ⟨by rfl, rfl⟩) (by assumption) ?_
              try simp only [Act.put, List.setIfInBounds_toArray, List.set_cons_zero, List.set_cons_succ]
              refine wpAnyH_take (i := 4) (oi := { dst := some 27, op := Op.move (Operand.tmp 8), type := 3, pos := "ref.go:49", after := #[{ on := 2, ground := Ground.guard }], guard := some (2, true) }) (v := undef) rfl (by kernel_rfl) (by kernel_rfl) (by kernel_rfl) (fun _ _ _ h => h) (Or.inr ⟨by rfl, rfl⟩) (by assumption) ?_
              try simp only [Act.put, List.setIfInBounds_toArray, List.set_cons_zero, List.set_cons_succ]
              refine wpAnyH_take (i := 5) (oi := { dst := some 28, op := Op.indexAddr 26 (Operand.tmp 26) (Operand.tmp 27), type := 0, pos := "ref.go:49", after := #[{ on := 3, ground := Ground.data }, { on := 4, ground := Ground.data }, { on := 2, ground := Ground.guard }], guard := some (2, true) }) (v := undef) rfl (by kernel_rfl) (by kernel_rfl) (by kernel_rfl) (fun _ _ _ h => h) (Or.inr ⟨by rfl, rfl⟩) (by assumption) ?_
              try simp only [Act.put, List.setIfInBounds_toArray, List.set_cons_zero, List.set_cons_succ]
              refine wpAnyH_take (i := 6) (oi := { dst := some 29, op := Op.load 30 (Operand.tmp 28), type := 30, pos := "ref.go:49", after := #[{ on := 5, ground := Ground.data }, { on := 2, ground := Ground.guard }], guard := some (2, true) }) (v := undef) rfl (by kernel_rfl) (by kernel_rfl) (by kernel_rfl) (fun _ _ _ h => h) (Or.inr ⟨by rfl, rfl⟩) (by assumption) ?_
              try simp only [Act.put, List.setIfInBounds_toArray, List.set_cons_zero, List.set_cons_succ]
              refine wpAnyH_take (i := 7) (oi := { dst := some 30, op := Op.load 30 (Operand.tmp 3), type := 30, pos := "ref.go:49", after := #[{ on := 2, ground := Ground.guard }], guard := some (2, true) }) (v := undef) rfl (by kernel_rfl) (by kernel_rfl) (by kernel_rfl) (fun _ _ _ h => h) (Or.inr ⟨by rfl, rfl⟩) (by assumption) ?_
              try simp only [Act.put, List.setIfInBounds_toArray, List.set_cons_zero, List.set_cons_succ]
              refine wpAnyH_take (i := 8) (oi := { dst := some 31, op := Op.call { callee := Callee.value (Operand.func 37), args := #[Operand.tmp 29, Operand.tmp 30], argTypes := #[30, 30] }, type := 4, pos := "ref.go:49", after := #[{ on := 6, ground := Ground.data }, { on := 7, ground := Ground.data }, { on := 2, ground := Ground.chain }, { on := 2, ground := Ground.guard }], guard := some (2, true) }) (v := undef) rfl (by kernel_rfl) (by kernel_rfl) (by kernel_rfl) (fun _ _ _ h => h) (Or.inr ⟨by rfl, rfl⟩) (by assumption) ?_
              try simp only [Act.put, List.setIfInBounds_toArray, List.set_cons_zero, List.set_cons_succ]
              refine wpAnyH_take (i := 9) (oi := { dst := some 32, op := Op.unOp UnOp.not 4 (Operand.tmp 31), type := 4, pos := "ref.go:49", after := #[{ on := 8, ground := Ground.data }, { on := 2, ground := Ground.guard }], guard := some (2, true) }) (v := undef) rfl (by kernel_rfl) (by kernel_rfl) (by kernel_rfl) (fun _ _ _ h => h) (Or.inr ⟨by rfl, rfl⟩) (by assumption) ?_
              try simp only [Act.put, List.setIfInBounds_toArray, List.set_cons_zero, List.set_cons_succ]
              refine wpAnyH_take (i := 10) (oi := { dst := some 33, op := Op.pick (Operand.tmp 25) (Operand.tmp 32) (Operand.const (Value.bool false)), type := 4, pos := "ref.go:49", after := #[{ on := 2, ground := Ground.data }, { on := 9, ground := Ground.data }], guard := none }) (v := ?_) rfl (by kernel_rfl) (by kernel_rfl) (by kernel_rfl) (fun _ _ _ h => h) (Or.inl ⟨by rfl, ?_⟩) (by assumption) ?_
              rotate_left
              focus ((intro w hSw; (try dsimp only at hSw); go_simp) <;> (try with_reducible rfl))
              try simp only [Act.put, List.setIfInBounds_toArray, List.set_cons_zero, List.set_cons_succ]
              refine wpAnyH_done (by kernel_rfl) ?_ _
              replace HB := HBd
              replace HPB := HPd
              replace HO := HOd
              clear HBd HPd HOd
              generalize wr.drew = w5 at *
              clear dd0 dd1 dd2 dd3 dd4 k0 k1 k2 k3 k4 hA hg2
              have dd0 := HPB.out.c0; have dd1 := HPB.out.c1; have dd2 := HPB.out.c2; have dd3 := HPB.out.c3; have dd4 := HPB.out.c4
              simp only at dd0 dd1 dd2 dd3 dd4
              obtain ⟨k0, k1, k2, k3, k4⟩ := HXC.out _ HB.out
              simp only at k0 k1 k2 k3 k4
              have hA := HPB.out.hi
              have hg2 := Nat.lt_of_lt_of_le hg HB.out.size
              go_wp2_with fail
              have HBd := Lib.hid HB.out.drew
              have HPd := Lib.hid (HPB.out.below (Below.refl _ _).drew)
              have HOd := Lib.hid (ownsRow_below HO.out (Below.refl _ _).drew)
              refine wp_region_held_drew (S := fun w' => w'.cell? ⟨w.heap.size, 0, none⟩ = some (.int .i64 s) ∧ w'.cell? ⟨w.heap.size, 1, none⟩ = some (.int .i64 c) ∧ w'.cell? ⟨w.heap.size, 2, none⟩ = some (.int .i64 f) ∧ w'.cell? ⟨w.heap.size, 3, none⟩ = some (.bool p) ∧ w'.cell? ⟨w.heap.size, 4, none⟩ = some (.bool q) ∧ w'.cell? ⟨g, k * 5, none⟩ = some (.int .i64 es) ∧ w'.cell? ⟨g, k * 5 + 1, none⟩ = some (.int .i64 ec) ∧ w'.cell? ⟨g, k * 5 + 2, none⟩ = some (.int .i64 ef) ∧ w'.cell? ⟨g, k * 5 + 3, none⟩ = some (.bool ep) ∧ w'.cell? ⟨g, k * 5 + 4, none⟩ = some (.bool eb)) (by kernel_rfl) (by (try dsimp only); go_keep) (fun hHeld => ?_)
              refine wpAnyH_take (i := 0) (oi := { dst := some 38, op := Op.move (Operand.tmp 0), type := 26, pos := "ref.go:53", after := #[], guard := none }) (v := ?_) rfl (by kernel_rfl) (by kernel_rfl) (by kernel_rfl) (fun _ _ _ h => h) (Or.inl ⟨by rfl, ?_⟩) (by assumption) ?_
              rotate_left
              focus ((intro w hSw; (try dsimp only at hSw); go_simp) <;> (try with_reducible rfl))
              try simp only [Act.put, List.setIfInBounds_toArray, List.set_cons_zero, List.set_cons_succ]
              refine wpAnyH_take (i := 1) (oi := { dst := some 39, op := Op.move (Operand.tmp 8), type := 3, pos := "ref.go:53", after := #[], guard := none }) (v := ?_) rfl (by kernel_rfl) (by kernel_rfl) (by kernel_rfl) (fun _ _ _ h => h) (Or.inl ⟨by rfl, ?_⟩) (by assumption) ?_
              rotate_left
              focus ((intro w hSw; (try dsimp only at hSw); go_simp) <;> (try with_reducible rfl))
              try simp only [Act.put, List.setIfInBounds_toArray, List.set_cons_zero, List.set_cons_succ]
              refine wpAnyH_take (i := 2) (oi := { dst := some 40, op := Op.indexAddr 26 (Operand.tmp 38) (Operand.tmp 39), type := 0, pos := "ref.go:53", after := #[{ on := 0, ground := Ground.data }, { on := 1, ground := Ground.data }], guard := none }) (v := ?_) rfl (by kernel_rfl) (by kernel_rfl) (by kernel_rfl) (fun _ _ _ h => h) (Or.inl ⟨by rfl, ?_⟩) (by assumption) ?_
              rotate_left
              focus ((intro w hSw; (try dsimp only at hSw); go_simp) <;> (try with_reducible rfl))
              try simp only [Act.put, List.setIfInBounds_toArray, List.set_cons_zero, List.set_cons_succ]
              refine wpAnyH_take (i := 3) (oi := { dst := some 41, op := Op.load 30 (Operand.tmp 40), type := 30, pos := "ref.go:53", after := #[{ on := 2, ground := Ground.data }], guard := none }) (v := ?_) rfl (by kernel_rfl) (by kernel_rfl) (by kernel_rfl) (fun _ _ _ h => h) (Or.inl ⟨by rfl, ?_⟩) (by assumption) ?_
              rotate_left
              focus ((intro w hSw; (try dsimp only at hSw); go_simp) <;> (try with_reducible rfl))
              try simp only [Act.put, List.setIfInBounds_toArray, List.set_cons_zero, List.set_cons_succ]
              refine wpAnyH_take (i := 4) (oi := { dst := some 42, op := Op.load 30 (Operand.tmp 3), type := 30, pos := "ref.go:53", after := #[], guard := none }) (v := ?_) rfl (by kernel_rfl) (by kernel_rfl) (by kernel_rfl) (fun _ _ _ h => h) (Or.inl ⟨by rfl, ?_⟩) (by assumption) ?_
              rotate_left
              focus ((intro w hSw; (try dsimp only at hSw); go_simp) <;> (try with_reducible rfl))
              try simp only [Act.put, List.setIfInBounds_toArray, List.set_cons_zero, List.set_cons_succ]
              refine wpAnyH_ready (rs := [5]) (by kernel_rfl) (by simp) ?_
              refine AllReadyH.cons (o := { dst := some 43, op := Op.call { callee := Callee.value (Operand.func 37), args := #[Operand.tmp 41, Operand.tmp 42], argTypes := #[30, 30] }, type := 4, pos := "ref.go:53", after := #[{ on := 3, ground := Ground.data }, { on := 4, ground := Ground.data }], guard := none }) rfl (fun K hK => ?_) AllReadyH.nil
              go_simp
              (first | (go_at_call 37; refine (HLA.out _).mono ?_; rintro e w6 ⟨rfl, hb⟩; have jj0 := (hb.cell (p := ⟨w.heap.size, 0, none⟩) hA).trans dd0; have jj1 := (hb.cell (p := ⟨w.heap.size, 1, none⟩) hA).trans dd1; have jj2 := (hb.cell (p := ⟨w.heap.size, 2, none⟩) hA).trans dd2; have jj3 := (hb.cell (p := ⟨w.heap.size, 3, none⟩) hA).trans dd3; have jj4 := (hb.cell (p := ⟨w.heap.size, 4, none⟩) hA).trans dd4; have ii0 := (hb.cell (p := ⟨g, k * 5, none⟩) hg2).trans k0; have ii1 := (hb.cell (p := ⟨g, k * 5 + 1, none⟩) hg2).trans k1; have ii2 := (hb.cell (p := ⟨g, k * 5 + 2, none⟩) hg2).trans k2; have ii3 := (hb.cell (p := ⟨g, k * 5 + 3, none⟩) hg2).trans k3; have ii4 := (hb.cell (p := ⟨g, k * 5 + 4, none⟩) hg2).trans k4; replace HB := Lib.hid (HBd.out.trans (hb.mono HBd.out.size)); replace HPB := Lib.hid (HPd.out.below hb); replace HO := Lib.hid (ownsRow_below HOd.out hb)))
              go_wp2_with fail
              refine hK.out _ _ (by (try dsimp only); go_keep) (fun hHeld => ?_)
              clear hK K
              try simp only [Act.put, List.setIfInBounds_toArray, List.set_cons_zero, List.set_cons_succ]
              refine wpAnyH_take (i := 6) (oi := { dst := some 44, op := Op.move (Operand.tmp 43), type := 4, pos := "ref.go:53", after := #[{ on := 5, ground := Ground.data }, { on := 5, ground := Ground.chain }], guard := none }) (v := ?_) rfl (by kernel_rfl) (by kernel_rfl) (by kernel_rfl) (fun _ _ _ h => h) (Or.inl ⟨by rfl, ?_⟩) (by assumption) ?_
              rotate_left
              focus ((intro w hSw; (try dsimp only at hSw); go_simp) <;> (try with_reducible rfl))
              try simp only [Act.put, List.setIfInBounds_toArray, List.set_cons_zero, List.set_cons_succ]
              refine wpAnyH_take (i := 7) (oi := { dst := some 45, op := Op.load 30 (Operand.tmp 3), type := 30, pos := "ref.go:53", after := #[{ on := 6, ground := Ground.guard }], guard := some (6, false) }) (v := undef) rfl (by kernel_rfl) (by kernel_rfl) (by kernel_rfl) (fun _ _ _ h => h) (Or.inr ⟨by rfl, rfl⟩) (by assumption) ?_
              try simp only [Act.put, List.setIfInBounds_toArray, List.set_cons_zero, List.set_cons_succ]
              refine wpAnyH_take (i := 8) (oi := { dst := some 46, op := Op.move (Operand.tmp 0), type := 26, pos := "ref.go:53", after := #[{ on := 6, ground := Ground.guard }], guard := some (6, false) }) (v := undef) rfl (by kernel_rfl) (by kernel_rfl) (by kernel_rfl) (fun _ _ _ h => h) (Or.inr ⟨by rfl, rfl⟩) (by assumption) ?_
              try simp only [Act.put, List.setIfInBounds_toArray, List.set_cons_zero, List.set_cons_succ]
              refine wpAnyH_take (i := 9) (oi := { dst := some 47, op := Op.move (Operand.tmp 8), type := 3, pos := "ref.go:53", after := #[{ on := 6, ground := Ground.guard }], guard := some (6, false) }) (v := undef) rfl (by kernel_rfl) (by kernel_rfl) (by kernel_rfl) (fun _ _ _ h => h) (Or.inr ⟨by rfl, rfl⟩) (by assumption) ?_
              try simp only [Act.put, List.setIfInBounds_toArray, List.set_cons_zero, List.set_cons_succ]
              refine wpAnyH_take (i := 10) (oi := { dst := some 48, op := Op.indexAddr 26 (Operand.tmp 46) (Operand.tmp 47), type := 0, pos := "ref.go:53", after := #[{ on := 8, ground := Ground.data }, { on := 9, ground := Ground.data }, { on := 6, ground := Ground.guard }], guard := some (6, false) }) (v := undef) rfl (by kernel_rfl) (by kernel_rfl) (by kernel_rfl) (fun _ _ _ h => h) (Or.inr ⟨by rfl, rfl⟩) (by assumption) ?_
              try simp only [Act.put, List.setIfInBounds_toArray, List.set_cons_zero, List.set_cons_succ]
              refine wpAnyH_take (i := 11) (oi := { dst := some 49, op := Op.load 30 (Operand.tmp 48), type := 30, pos := "ref.go:53", after := #[{ on := 10, ground := Ground.data }, { on := 6, ground := Ground.guard }], guard := some (6, false) }) (v := undef) rfl (by kernel_rfl) (by kernel_rfl) (by kernel_rfl) (fun _ _ _ h => h) (Or.inr ⟨by rfl, rfl⟩) (by assumption) ?_
              try simp only [Act.put, List.setIfInBounds_toArray, List.set_cons_zero, List.set_cons_succ]
              refine wpAnyH_take (i := 12) (oi := { dst := some 50, op := Op.call { callee := Callee.value (Operand.func 37), args := #[Operand.tmp 45, Operand.tmp 49], argTypes := #[30, 30] }, type := 4, pos := "ref.go:53", after := #[{ on := 7, ground := Ground.data }, { on := 11, ground := Ground.data }, { on := 6, ground := Ground.chain }, { on := 6, ground := Ground.guard }], guard := some (6, false) }) (v := undef) rfl (by kernel_rfl) (by kernel_rfl) (by kernel_rfl) (fun _ _ _ h => h) (Or.inr ⟨by rfl, rfl⟩) (by assumption) ?_
              try simp only [Act.put, List.setIfInBounds_toArray, List.set_cons_zero, List.set_cons_succ]
              refine wpAnyH_take (i := 13) (oi := { dst := some 51, op := Op.pick (Operand.tmp 44) (Operand.const (Value.bool true)) (Operand.tmp 50), type := 4, pos := "ref.go:53", after := #[{ on := 6, ground := Ground.data }, { on := 12, ground := Ground.data }], guard := none }) (v := ?_) rfl (by kernel_rfl) (by kernel_rfl) (by kernel_rfl) (fun _ _ _ h => h) (Or.inl ⟨by rfl, ?_⟩) (by assumption) ?_
              rotate_left
              focus ((intro w hSw; (try dsimp only at hSw); go_simp) <;> (try with_reducible rfl))
              try simp only [Act.put, List.setIfInBounds_toArray, List.set_cons_zero, List.set_cons_succ]
              refine wpAnyH_done (by kernel_rfl) ?_ _
              clear hb HBd HPd HOd jj0 jj1 jj2 jj3 jj4 ii0 ii1 ii2 ii3 ii4
              clear dd0 dd1 dd2 dd3 dd4 k0 k1 k2 k3 k4 hA hg2
              have dd0 := HPB.out.c0; have dd1 := HPB.out.c1; have dd2 := HPB.out.c2; have dd3 := HPB.out.c3; have dd4 := HPB.out.c4
              simp only at dd0 dd1 dd2 dd3 dd4
              obtain ⟨k0, k1, k2, k3, k4⟩ := HXC.out _ HB.out
              simp only at k0 k1 k2 k3 k4
              have hA := HPB.out.hi
              have hg2 := Nat.lt_of_lt_of_le hg HB.out.size
              go_wp2_with (at_builtin; refine wpList_append_own _ rfl _ _ 26 rfl (w.heap.size + 1) 30 i0 _ 5 32 Try.underlying26 hi hz0 hz1 hz2 rfl (by decide) _ _ _ rfl (HO.out.alloc _) ⟨w6.heap.size, 0, none⟩ 1 1 [.int .i64 es, .int .i64 ec, .int .i64 ef, .bool ep, .bool eb] rfl rfl ?c1 ?c2 ?c3 ?c4 ?c5 ?_)
              case c1 =>
                intro j u hj
                rw [Addr.add_lit]
                exact cells_at (Blk.new w6 es ec ef ep eb) j u hj
              case c2 =>
                intro u hu
                simp at hu
                rcases hu with rfl | rfl | rfl | rfl | rfl <;> rfl
              case c3 => unfold maxLen; (try simp only [List.length_append, List.length_singleton]); omega
              case c4 => (try simp only [List.length_append, List.length_singleton]); omega
              case c5 => have := HPB.out.hi; simp; omega
              intro vc wc hown' hgrow _
              have hbb : Below (w.heap.size + 1) w6 wc := ((Below.refl (w.heap.size + 1) w6).alloc HPB.out.hi (Obj.cells #[Value.int IntKind.i64 es, Value.int IntKind.i64 ec, Value.int IntKind.i64 ef, Value.bool ep, Value.bool eb] 30)).grown hgrow (by have := HPB.out.hi; simp; omega) (fun x hx => (HO.out.lt x hx).1)
              replace HB := Lib.hid (HB.out.trans (hbb.mono (Nat.le_succ _)))
              replace HPB := Lib.hid (HPB.out.belowB hbb (Nat.lt_succ_self _))
              replace HO : Hid (wc.ownsRow (w.heap.size + 1) 30 5 vc (L ++ [(Ar.mk es ec ef ep eb)]).length (flat (L ++ [(Ar.mk es ec ef ep eb)]))) := by
                unfold Hid
                rw [flat_append, flat_one]
                simp only [List.length_append, List.length_singleton]
                simpa [Ar.cells] using hown'
              clear hgrow hown' hbb
              go_wp2_with fail
              go_roundw
              case rel => exact ⟨k + 1, by omega, by go_num, by rw [HS.out], HB, HPB, by rw [HS.out]; exact HO⟩
              case measure => simp [intOf]; omega
            | false =>
              cases b2 with
              | true =>
                have HS := Lib.hid HSU.out
                clear HSU
                simp only [Bool.not_false, Bool.not_true, Bool.and_true, Bool.true_and, Bool.and_false, Bool.false_and, Bool.or_true, Bool.true_or, Bool.or_false, Bool.false_or, Bool.false_eq_true, if_true, if_false, List.append_nil] at HS
                go_wp2_with fail
                have HBd := Lib.hid HB.out.drew
                have HPd := Lib.hid (HPB.out.below (Below.refl _ _).drew)
                have HOd := Lib.hid (ownsRow_below HO.out (Below.refl _ _).drew)
                refine wp_region_held_drew (S := fun w' => w'.cell? ⟨w.heap.size, 0, none⟩ = some (.int .i64 s) ∧ w'.cell? ⟨w.heap.size, 1, none⟩ = some (.int .i64 c) ∧ w'.cell? ⟨w.heap.size, 2, none⟩ = some (.int .i64 f) ∧ w'.cell? ⟨w.heap.size, 3, none⟩ = some (.bool p) ∧ w'.cell? ⟨w.heap.size, 4, none⟩ = some (.bool q) ∧ w'.cell? ⟨g, k * 5, none⟩ = some (.int .i64 es) ∧ w'.cell? ⟨g, k * 5 + 1, none⟩ = some (.int .i64 ec) ∧ w'.cell? ⟨g, k * 5 + 2, none⟩ = some (.int .i64 ef) ∧ w'.cell? ⟨g, k * 5 + 3, none⟩ = some (.bool ep) ∧ w'.cell? ⟨g, k * 5 + 4, none⟩ = some (.bool eb)) (by kernel_rfl) (by (try dsimp only); go_keep) (fun hHeld => ?_)
                refine wpAnyH_take (i := 0) (oi := { dst := some 23, op := Op.move (Operand.tmp 7), type := 4, pos := "ref.go:49", after := #[], guard := none }) (v := ?_) rfl (by kernel_rfl) (by kernel_rfl) (by kernel_rfl) (fun _ _ _ h => h) (Or.inl ⟨by rfl, ?_⟩) (by assumption) ?_
                rotate_left
                focus ((intro w hSw; (try dsimp only at hSw); go_simp) <;> (try with_reducible rfl))
                try simp only [Act.put, List.setIfInBounds_toArray, List.set_cons_zero, List.set_cons_succ]
                refine wpAnyH_take (i := 1) (oi := { dst := some 24, op := Op.unOp UnOp.not 4 (Operand.tmp 23), type := 4, pos := "ref.go:49", after := #[{ on := 0, ground := Ground.data }], guard := none }) (v := ?_) rfl (by kernel_rfl) (by kernel_rfl) (by kernel_rfl) (fun _ _ _ h => h) (Or.inl ⟨by rfl, ?_⟩) (by assumption) ?_
                rotate_left
                focus ((intro w hSw; (try dsimp only at hSw); go_simp) <;> (try with_reducible rfl))
                try simp only [Act.put, List.setIfInBounds_toArray, List.set_cons_zero, List.set_cons_succ]
                refine wpAnyH_take (i := 2) (oi := { dst := some 25, op := Op.move (Operand.tmp 24), type := 4, pos := "ref.go:49", after := #[{ on := 1, ground := Ground.data }], guard := none }) (v := ?_) rfl (by kernel_rfl) (by kernel_rfl) (by kernel_rfl) (fun _ _ _ h => h) (Or.inl ⟨by rfl, ?_⟩) (by assumption) ?_
                rotate_left
                focus ((intro w hSw; (try dsimp only at hSw); go_simp) <;> (try with_reducible rfl))
                try simp only [Act.put, List.setIfInBounds_toArray, List.set_cons_zero, List.set_cons_succ]
                refine wpAnyH_take (i := 3) (oi := { dst := some 26, op := Op.move (Operand.tmp 0), type := 26, pos := "ref.go:49", after := #[{ on := 2, ground := Ground.guard }], guard := some (2, true) }) (v := undef) rfl (by kernel_rfl) (by kernel_rfl) (by kernel_rfl) (fun _ _ _ h => h) (Or.inr ⟨by rfl, rfl⟩) (by assumption) ?_
                try simp only [Act.put, List.setIfInBounds_toArray, List.set_cons_zero, List.set_cons_succ]
                refine wpAnyH_take (i := 4) (oi := { dst := some 27, op := Op.move (Operand.tmp 8), type := 3, pos := "ref.go:49", after := #[{ on := 2, ground := Ground.guard }], guard := some (2, true) }) (v := undef) rfl (by kernel_rfl) (by kernel_rfl) (by kernel_rfl) (fun _ _ _ h => h) (Or.inr ⟨by rfl, rfl⟩) (by assumption) ?_
                try simp only [Act.put, List.setIfInBounds_toArray, List.set_cons_zero, List.set_cons_succ]
                refine wpAnyH_take (i := 5) (oi := { dst := some 28, op := Op.indexAddr 26 (Operand.tmp 26) (Operand.tmp 27), type := 0, pos := "ref.go:49", after := #[{ on := 3, ground := Ground.data }, { on := 4, ground := Ground.data }, { on := 2, ground := Ground.guard }], guard := some (2, true) }) (v := undef) rfl (by kernel_rfl) (by kernel_rfl) (by kernel_rfl) (fun _ _ _ h => h) (Or.inr ⟨by rfl, rfl⟩) (by assumption) ?_
                try simp only [Act.put, List.setIfInBounds_toArray, List.set_cons_zero, List.set_cons_succ]
                refine wpAnyH_take (i := 6) (oi := { dst := some 29, op := Op.load 30 (Operand.tmp 28), type := 30, pos := "ref.go:49", after := #[{ on := 5, ground := Ground.data }, { on := 2, ground := Ground.guard }], guard := some (2, true) }) (v := undef) rfl (by kernel_rfl) (by kernel_rfl) (by kernel_rfl) (fun _ _ _ h => h) (Or.inr ⟨by rfl, rfl⟩) (by assumption) ?_
                try simp only [Act.put, List.setIfInBounds_toArray, List.set_cons_zero, List.set_cons_succ]
                refine wpAnyH_take (i := 7) (oi := { dst := some 30, op := Op.load 30 (Operand.tmp 3), type := 30, pos := "ref.go:49", after := #[{ on := 2, ground := Ground.guard }], guard := some (2, true) }) (v := undef) rfl (by kernel_rfl) (by kernel_rfl) (by kernel_rfl) (fun _ _ _ h => h) (Or.inr ⟨by rfl, rfl⟩) (by assumption) ?_
                try simp only [Act.put, List.setIfInBounds_toArray, List.set_cons_zero, List.set_cons_succ]
                refine wpAnyH_take (i := 8) (oi := { dst := some 31, op := Op.call { callee := Callee.value (Operand.func 37), args := #[Operand.tmp 29, Operand.tmp 30], argTypes := #[30, 30] }, type := 4, pos := "ref.go:49", after := #[{ on := 6, ground := Ground.data }, { on := 7, ground := Ground.data }, { on := 2, ground := Ground.chain }, { on := 2, ground := Ground.guard }], guard := some (2, true) }) (v := undef) rfl (by kernel_rfl) (by kernel_rfl) (by kernel_rfl) (fun _ _ _ h => h) (Or.inr ⟨by rfl, rfl⟩) (by assumption) ?_
                try simp only [Act.put, List.setIfInBounds_toArray, List.set_cons_zero, List.set_cons_succ]
                refine wpAnyH_take (i := 9) (oi := { dst := some 32, op := Op.unOp UnOp.not 4 (Operand.tmp 31), type := 4, pos := "ref.go:49", after := #[{ on := 8, ground := Ground.data }, { on := 2, ground := Ground.guard }], guard := some (2, true) }) (v := undef) rfl (by kernel_rfl) (by kernel_rfl) (by kernel_rfl) (fun _ _ _ h => h) (Or.inr ⟨by rfl, rfl⟩) (by assumption) ?_
                try simp only [Act.put, List.setIfInBounds_toArray, List.set_cons_zero, List.set_cons_succ]
                refine wpAnyH_take (i := 10) (oi := { dst := some 33, op := Op.pick (Operand.tmp 25) (Operand.tmp 32) (Operand.const (Value.bool false)), type := 4, pos := "ref.go:49", after := #[{ on := 2, ground := Ground.data }, { on := 9, ground := Ground.data }], guard := none }) (v := ?_) rfl (by kernel_rfl) (by kernel_rfl) (by kernel_rfl) (fun _ _ _ h => h) (Or.inl ⟨by rfl, ?_⟩) (by assumption) ?_
                rotate_left
                focus ((intro w hSw; (try dsimp only at hSw); go_simp) <;> (try with_reducible rfl))
                try simp only [Act.put, List.setIfInBounds_toArray, List.set_cons_zero, List.set_cons_succ]
                refine wpAnyH_done (by kernel_rfl) ?_ _
                replace HB := HBd
                replace HPB := HPd
                replace HO := HOd
                clear HBd HPd HOd
                generalize wr.drew = w5 at *
                clear dd0 dd1 dd2 dd3 dd4 k0 k1 k2 k3 k4 hA hg2
                have dd0 := HPB.out.c0; have dd1 := HPB.out.c1; have dd2 := HPB.out.c2; have dd3 := HPB.out.c3; have dd4 := HPB.out.c4
                simp only at dd0 dd1 dd2 dd3 dd4
                obtain ⟨k0, k1, k2, k3, k4⟩ := HXC.out _ HB.out
                simp only at k0 k1 k2 k3 k4
                have hA := HPB.out.hi
                have hg2 := Nat.lt_of_lt_of_le hg HB.out.size
                go_wp2_with fail
                have HBd := Lib.hid HB.out.drew
                have HPd := Lib.hid (HPB.out.below (Below.refl _ _).drew)
                have HOd := Lib.hid (ownsRow_below HO.out (Below.refl _ _).drew)
                refine wp_region_held_drew (S := fun w' => w'.cell? ⟨w.heap.size, 0, none⟩ = some (.int .i64 s) ∧ w'.cell? ⟨w.heap.size, 1, none⟩ = some (.int .i64 c) ∧ w'.cell? ⟨w.heap.size, 2, none⟩ = some (.int .i64 f) ∧ w'.cell? ⟨w.heap.size, 3, none⟩ = some (.bool p) ∧ w'.cell? ⟨w.heap.size, 4, none⟩ = some (.bool q) ∧ w'.cell? ⟨g, k * 5, none⟩ = some (.int .i64 es) ∧ w'.cell? ⟨g, k * 5 + 1, none⟩ = some (.int .i64 ec) ∧ w'.cell? ⟨g, k * 5 + 2, none⟩ = some (.int .i64 ef) ∧ w'.cell? ⟨g, k * 5 + 3, none⟩ = some (.bool ep) ∧ w'.cell? ⟨g, k * 5 + 4, none⟩ = some (.bool eb)) (by kernel_rfl) (by (try dsimp only); go_keep) (fun hHeld => ?_)
                refine wpAnyH_take (i := 0) (oi := { dst := some 38, op := Op.move (Operand.tmp 0), type := 26, pos := "ref.go:53", after := #[], guard := none }) (v := ?_) rfl (by kernel_rfl) (by kernel_rfl) (by kernel_rfl) (fun _ _ _ h => h) (Or.inl ⟨by rfl, ?_⟩) (by assumption) ?_
                rotate_left
                focus ((intro w hSw; (try dsimp only at hSw); go_simp) <;> (try with_reducible rfl))
                try simp only [Act.put, List.setIfInBounds_toArray, List.set_cons_zero, List.set_cons_succ]
                refine wpAnyH_take (i := 1) (oi := { dst := some 39, op := Op.move (Operand.tmp 8), type := 3, pos := "ref.go:53", after := #[], guard := none }) (v := ?_) rfl (by kernel_rfl) (by kernel_rfl) (by kernel_rfl) (fun _ _ _ h => h) (Or.inl ⟨by rfl, ?_⟩) (by assumption) ?_
                rotate_left
                focus ((intro w hSw; (try dsimp only at hSw); go_simp) <;> (try with_reducible rfl))
                try simp only [Act.put, List.setIfInBounds_toArray, List.set_cons_zero, List.set_cons_succ]
                refine wpAnyH_take (i := 2) (oi := { dst := some 40, op := Op.indexAddr 26 (Operand.tmp 38) (Operand.tmp 39), type := 0, pos := "ref.go:53", after := #[{ on := 0, ground := Ground.data }, { on := 1, ground := Ground.data }], guard := none }) (v := ?_) rfl (by kernel_rfl) (by kernel_rfl) (by kernel_rfl) (fun _ _ _ h => h) (Or.inl ⟨by rfl, ?_⟩) (by assumption) ?_
                rotate_left
                focus ((intro w hSw; (try dsimp only at hSw); go_simp) <;> (try with_reducible rfl))
                try simp only [Act.put, List.setIfInBounds_toArray, List.set_cons_zero, List.set_cons_succ]
                refine wpAnyH_take (i := 3) (oi := { dst := some 41, op := Op.load 30 (Operand.tmp 40), type := 30, pos := "ref.go:53", after := #[{ on := 2, ground := Ground.data }], guard := none }) (v := ?_) rfl (by kernel_rfl) (by kernel_rfl) (by kernel_rfl) (fun _ _ _ h => h) (Or.inl ⟨by rfl, ?_⟩) (by assumption) ?_
                rotate_left
                focus ((intro w hSw; (try dsimp only at hSw); go_simp) <;> (try with_reducible rfl))
                try simp only [Act.put, List.setIfInBounds_toArray, List.set_cons_zero, List.set_cons_succ]
                refine wpAnyH_take (i := 4) (oi := { dst := some 42, op := Op.load 30 (Operand.tmp 3), type := 30, pos := "ref.go:53", after := #[], guard := none }) (v := ?_) rfl (by kernel_rfl) (by kernel_rfl) (by kernel_rfl) (fun _ _ _ h => h) (Or.inl ⟨by rfl, ?_⟩) (by assumption) ?_
                rotate_left
                focus ((intro w hSw; (try dsimp only at hSw); go_simp) <;> (try with_reducible rfl))
                try simp only [Act.put, List.setIfInBounds_toArray, List.set_cons_zero, List.set_cons_succ]
                refine wpAnyH_ready (rs := [5]) (by kernel_rfl) (by simp) ?_
                refine AllReadyH.cons (o := { dst := some 43, op := Op.call { callee := Callee.value (Operand.func 37), args := #[Operand.tmp 41, Operand.tmp 42], argTypes := #[30, 30] }, type := 4, pos := "ref.go:53", after := #[{ on := 3, ground := Ground.data }, { on := 4, ground := Ground.data }], guard := none }) rfl (fun K hK => ?_) AllReadyH.nil
                go_simp
                (first | (go_at_call 37; refine (HLA.out _).mono ?_; rintro e w6 ⟨rfl, hb⟩; have jj0 := (hb.cell (p := ⟨w.heap.size, 0, none⟩) hA).trans dd0; have jj1 := (hb.cell (p := ⟨w.heap.size, 1, none⟩) hA).trans dd1; have jj2 := (hb.cell (p := ⟨w.heap.size, 2, none⟩) hA).trans dd2; have jj3 := (hb.cell (p := ⟨w.heap.size, 3, none⟩) hA).trans dd3; have jj4 := (hb.cell (p := ⟨w.heap.size, 4, none⟩) hA).trans dd4; have ii0 := (hb.cell (p := ⟨g, k * 5, none⟩) hg2).trans k0; have ii1 := (hb.cell (p := ⟨g, k * 5 + 1, none⟩) hg2).trans k1; have ii2 := (hb.cell (p := ⟨g, k * 5 + 2, none⟩) hg2).trans k2; have ii3 := (hb.cell (p := ⟨g, k * 5 + 3, none⟩) hg2).trans k3; have ii4 := (hb.cell (p := ⟨g, k * 5 + 4, none⟩) hg2).trans k4; replace HB := Lib.hid (HBd.out.trans (hb.mono HBd.out.size)); replace HPB := Lib.hid (HPd.out.below hb); replace HO := Lib.hid (ownsRow_below HOd.out hb)))
                go_wp2_with fail
                refine hK.out _ _ (by (try dsimp only); go_keep) (fun hHeld => ?_)
                clear hK K
                try simp only [Act.put, List.setIfInBounds_toArray, List.set_cons_zero, List.set_cons_succ]
                refine wpAnyH_take (i := 6) (oi := { dst := some 44, op := Op.move (Operand.tmp 43), type := 4, pos := "ref.go:53", after := #[{ on := 5, ground := Ground.data }, { on := 5, ground := Ground.chain }], guard := none }) (v := ?_) rfl (by kernel_rfl) (by kernel_rfl) (by kernel_rfl) (fun _ _ _ h => h) (Or.inl ⟨by rfl, ?_⟩) (by assumption) ?_
                rotate_left
                focus ((intro w hSw; (try dsimp only at hSw); go_simp) <;> (try with_reducible rfl))
                try simp only [Act.put, List.setIfInBounds_toArray, List.set_cons_zero, List.set_cons_succ]
                refine wpAnyH_take (i := 7) (oi := { dst := some 45, op := Op.load 30 (Operand.tmp 3), type := 30, pos := "ref.go:53", after := #[{ on := 6, ground := Ground.guard }], guard := some (6, false) }) (v := ?_) rfl (by kernel_rfl) (by kernel_rfl) (by kernel_rfl) (fun _ _ _ h => h) (Or.inl ⟨by rfl, ?_⟩) (by assumption) ?_
                rotate_left
                focus ((intro w hSw; (try dsimp only at hSw); go_simp) <;> (try with_reducible rfl))
                try simp only [Act.put, List.setIfInBounds_toArray, List.set_cons_zero, List.set_cons_succ]
                refine wpAnyH_take (i := 8) (oi := { dst := some 46, op := Op.move (Operand.tmp 0), type := 26, pos := "ref.go:53", after := #[{ on := 6, ground := Ground.guard }], guard := some (6, false) }) (v := ?_) rfl (by kernel_rfl) (by kernel_rfl) (by kernel_rfl) (fun _ _ _ h => h) (Or.inl ⟨by rfl, ?_⟩) (by assumption) ?_
                rotate_left
                focus ((intro w hSw; (try dsimp only at hSw); go_simp) <;> (try with_reducible rfl))
                try simp only [Act.put, List.setIfInBounds_toArray, List.set_cons_zero, List.set_cons_succ]
                refine wpAnyH_take (i := 9) (oi := { dst := some 47, op := Op.move (Operand.tmp 8), type := 3, pos := "ref.go:53", after := #[{ on := 6, ground := Ground.guard }], guard := some (6, false) }) (v := ?_) rfl (by kernel_rfl) (by kernel_rfl) (by kernel_rfl) (fun _ _ _ h => h) (Or.inl ⟨by rfl, ?_⟩) (by assumption) ?_
                rotate_left
                focus ((intro w hSw; (try dsimp only at hSw); go_simp) <;> (try with_reducible rfl))
                try simp only [Act.put, List.setIfInBounds_toArray, List.set_cons_zero, List.set_cons_succ]
                refine wpAnyH_take (i := 10) (oi := { dst := some 48, op := Op.indexAddr 26 (Operand.tmp 46) (Operand.tmp 47), type := 0, pos := "ref.go:53", after := #[{ on := 8, ground := Ground.data }, { on := 9, ground := Ground.data }, { on := 6, ground := Ground.guard }], guard := some (6, false) }) (v := ?_) rfl (by kernel_rfl) (by kernel_rfl) (by kernel_rfl) (fun _ _ _ h => h) (Or.inl ⟨by rfl, ?_⟩) (by assumption) ?_
                rotate_left
                focus ((intro w hSw; (try dsimp only at hSw); go_simp) <;> (try with_reducible rfl))
                try simp only [Act.put, List.setIfInBounds_toArray, List.set_cons_zero, List.set_cons_succ]
                refine wpAnyH_take (i := 11) (oi := { dst := some 49, op := Op.load 30 (Operand.tmp 48), type := 30, pos := "ref.go:53", after := #[{ on := 10, ground := Ground.data }, { on := 6, ground := Ground.guard }], guard := some (6, false) }) (v := ?_) rfl (by kernel_rfl) (by kernel_rfl) (by kernel_rfl) (fun _ _ _ h => h) (Or.inl ⟨by rfl, ?_⟩) (by assumption) ?_
                rotate_left
                focus ((intro w hSw; (try dsimp only at hSw); go_simp) <;> (try with_reducible rfl))
                try simp only [Act.put, List.setIfInBounds_toArray, List.set_cons_zero, List.set_cons_succ]
                refine wpAnyH_ready (rs := [12]) (by kernel_rfl) (by simp) ?_
                refine AllReadyH.cons (o := { dst := some 50, op := Op.call { callee := Callee.value (Operand.func 37), args := #[Operand.tmp 45, Operand.tmp 49], argTypes := #[30, 30] }, type := 4, pos := "ref.go:53", after := #[{ on := 7, ground := Ground.data }, { on := 11, ground := Ground.data }, { on := 6, ground := Ground.chain }, { on := 6, ground := Ground.guard }], guard := some (6, false) }) rfl (fun K hK => ?_) AllReadyH.nil
                go_simp
                (first | (go_at_call 37; refine (HLB.out _).mono ?_; rintro e w7 ⟨rfl, hb2⟩; have mm0 := (hb2.cell (p := ⟨w.heap.size, 0, none⟩) (Nat.lt_of_lt_of_le hA hb.size)).trans jj0; have mm1 := (hb2.cell (p := ⟨w.heap.size, 1, none⟩) (Nat.lt_of_lt_of_le hA hb.size)).trans jj1; have mm2 := (hb2.cell (p := ⟨w.heap.size, 2, none⟩) (Nat.lt_of_lt_of_le hA hb.size)).trans jj2; have mm3 := (hb2.cell (p := ⟨w.heap.size, 3, none⟩) (Nat.lt_of_lt_of_le hA hb.size)).trans jj3; have mm4 := (hb2.cell (p := ⟨w.heap.size, 4, none⟩) (Nat.lt_of_lt_of_le hA hb.size)).trans jj4; have nn0 := (hb2.cell (p := ⟨g, k * 5, none⟩) (Nat.lt_of_lt_of_le hg2 hb.size)).trans ii0; have nn1 := (hb2.cell (p := ⟨g, k * 5 + 1, none⟩) (Nat.lt_of_lt_of_le hg2 hb.size)).trans ii1; have nn2 := (hb2.cell (p := ⟨g, k * 5 + 2, none⟩) (Nat.lt_of_lt_of_le hg2 hb.size)).trans ii2; have nn3 := (hb2.cell (p := ⟨g, k * 5 + 3, none⟩) (Nat.lt_of_lt_of_le hg2 hb.size)).trans ii3; have nn4 := (hb2.cell (p := ⟨g, k * 5 + 4, none⟩) (Nat.lt_of_lt_of_le hg2 hb.size)).trans ii4; replace HB := Lib.hid (HB.out.trans (hb2.mono HB.out.size)); replace HPB := Lib.hid (HPB.out.below hb2); replace HO := Lib.hid (ownsRow_below HO.out hb2)))
                go_wp2_with fail
                refine hK.out _ _ (by (try dsimp only); go_keep) (fun hHeld => ?_)
                clear hK K
                try simp only [Act.put, List.setIfInBounds_toArray, List.set_cons_zero, List.set_cons_succ]
                refine wpAnyH_take (i := 13) (oi := { dst := some 51, op := Op.pick (Operand.tmp 44) (Operand.const (Value.bool true)) (Operand.tmp 50), type := 4, pos := "ref.go:53", after := #[{ on := 6, ground := Ground.data }, { on := 12, ground := Ground.data }], guard := none }) (v := ?_) rfl (by kernel_rfl) (by kernel_rfl) (by kernel_rfl) (fun _ _ _ h => h) (Or.inl ⟨by rfl, ?_⟩) (by assumption) ?_
                rotate_left
                focus ((intro w hSw; (try dsimp only at hSw); go_simp) <;> (try with_reducible rfl))
                try simp only [Act.put, List.setIfInBounds_toArray, List.set_cons_zero, List.set_cons_succ]
                refine wpAnyH_done (by kernel_rfl) ?_ _
                clear hb HBd HPd HOd jj0 jj1 jj2 jj3 jj4 ii0 ii1 ii2 ii3 ii4 hb2 mm0 mm1 mm2 mm3 mm4 nn0 nn1 nn2 nn3 nn4
                clear dd0 dd1 dd2 dd3 dd4 k0 k1 k2 k3 k4 hA hg2
                have dd0 := HPB.out.c0; have dd1 := HPB.out.c1; have dd2 := HPB.out.c2; have dd3 := HPB.out.c3; have dd4 := HPB.out.c4
                simp only at dd0 dd1 dd2 dd3 dd4
                obtain ⟨k0, k1, k2, k3, k4⟩ := HXC.out _ HB.out
                simp only at k0 k1 k2 k3 k4
                have hA := HPB.out.hi
                have hg2 := Nat.lt_of_lt_of_le hg HB.out.size
                go_wp2_with (at_builtin; refine wpList_append_own _ rfl _ _ 26 rfl (w.heap.size + 1) 30 i0 _ 5 32 Try.underlying26 hi hz0 hz1 hz2 rfl (by decide) _ _ _ rfl (HO.out.alloc _) ⟨w7.heap.size, 0, none⟩ 1 1 [.int .i64 es, .int .i64 ec, .int .i64 ef, .bool ep, .bool eb] rfl rfl ?c1 ?c2 ?c3 ?c4 ?c5 ?_)
                case c1 =>
                  intro j u hj
                  rw [Addr.add_lit]
                  exact cells_at (Blk.new w7 es ec ef ep eb) j u hj
                case c2 =>
                  intro u hu
                  simp at hu
                  rcases hu with rfl | rfl | rfl | rfl | rfl <;> rfl
                case c3 => unfold maxLen; (try simp only [List.length_append, List.length_singleton]); omega
                case c4 => (try simp only [List.length_append, List.length_singleton]); omega
                case c5 => have := HPB.out.hi; simp; omega
                intro vc wc hown' hgrow _
                have hbb : Below (w.heap.size + 1) w7 wc := ((Below.refl (w.heap.size + 1) w7).alloc HPB.out.hi (Obj.cells #[Value.int IntKind.i64 es, Value.int IntKind.i64 ec, Value.int IntKind.i64 ef, Value.bool ep, Value.bool eb] 30)).grown hgrow (by have := HPB.out.hi; simp; omega) (fun x hx => (HO.out.lt x hx).1)
                replace HB := Lib.hid (HB.out.trans (hbb.mono (Nat.le_succ _)))
                replace HPB := Lib.hid (HPB.out.belowB hbb (Nat.lt_succ_self _))
                replace HO : Hid (wc.ownsRow (w.heap.size + 1) 30 5 vc (L ++ [(Ar.mk es ec ef ep eb)]).length (flat (L ++ [(Ar.mk es ec ef ep eb)]))) := by
                  unfold Hid
                  rw [flat_append, flat_one]
                  simp only [List.length_append, List.length_singleton]
                  simpa [Ar.cells] using hown'
                clear hgrow hown' hbb
                go_wp2_with fail
                go_roundw
                case rel => exact ⟨k + 1, by omega, by go_num, by rw [HS.out], HB, HPB, by rw [HS.out]; exact HO⟩
                case measure => simp [intOf]; omega
              | false =>
                have HS := Lib.hid HSU.out
                clear HSU
                simp only [Bool.not_false, Bool.not_true, Bool.and_true, Bool.true_and, Bool.and_false, Bool.false_and, Bool.or_true, Bool.true_or, Bool.or_false, Bool.false_or, Bool.false_eq_true, if_true, if_false, List.append_nil] at HS
                go_wp2_with fail
                have HBd := Lib.hid HB.out.drew
                have HPd := Lib.hid (HPB.out.below (Below.refl _ _).drew)
                have HOd := Lib.hid (ownsRow_below HO.out (Below.refl _ _).drew)
                refine wp_region_held_drew (S := fun w' => w'.cell? ⟨w.heap.size, 0, none⟩ = some (.int .i64 s) ∧ w'.cell? ⟨w.heap.size, 1, none⟩ = some (.int .i64 c) ∧ w'.cell? ⟨w.heap.size, 2, none⟩ = some (.int .i64 f) ∧ w'.cell? ⟨w.heap.size, 3, none⟩ = some (.bool p) ∧ w'.cell? ⟨w.heap.size, 4, none⟩ = some (.bool q) ∧ w'.cell? ⟨g, k * 5, none⟩ = some (.int .i64 es) ∧ w'.cell? ⟨g, k * 5 + 1, none⟩ = some (.int .i64 ec) ∧ w'.cell? ⟨g, k * 5 + 2, none⟩ = some (.int .i64 ef) ∧ w'.cell? ⟨g, k * 5 + 3, none⟩ = some (.bool ep) ∧ w'.cell? ⟨g, k * 5 + 4, none⟩ = some (.bool eb)) (by kernel_rfl) (by (try dsimp only); go_keep) (fun hHeld => ?_)
                refine wpAnyH_take (i := 0) (oi := { dst := some 23, op := Op.move (Operand.tmp 7), type := 4, pos := "ref.go:49", after := #[], guard := none }) (v := ?_) rfl (by kernel_rfl) (by kernel_rfl) (by kernel_rfl) (fun _ _ _ h => h) (Or.inl ⟨by rfl, ?_⟩) (by assumption) ?_
                rotate_left
                focus ((intro w hSw; (try dsimp only at hSw); go_simp) <;> (try with_reducible rfl))
                try simp only [Act.put, List.setIfInBounds_toArray, List.set_cons_zero, List.set_cons_succ]
                refine wpAnyH_take (i := 1) (oi := { dst := some 24, op := Op.unOp UnOp.not 4 (Operand.tmp 23), type := 4, pos := "ref.go:49", after := #[{ on := 0, ground := Ground.data }], guard := none }) (v := ?_) rfl (by kernel_rfl) (by kernel_rfl) (by kernel_rfl) (fun _ _ _ h => h) (Or.inl ⟨by rfl, ?_⟩) (by assumption) ?_
                rotate_left
                focus ((intro w hSw; (try dsimp only at hSw); go_simp) <;> (try with_reducible rfl))
                try simp only [Act.put, List.setIfInBounds_toArray, List.set_cons_zero, List.set_cons_succ]
                refine wpAnyH_take (i := 2) (oi := { dst := some 25, op := Op.move (Operand.tmp 24), type := 4, pos := "ref.go:49", after := #[{ on := 1, ground := Ground.data }], guard := none }) (v := ?_) rfl (by kernel_rfl) (by kernel_rfl) (by kernel_rfl) (fun _ _ _ h => h) (Or.inl ⟨by rfl, ?_⟩) (by assumption) ?_
                rotate_left
                focus ((intro w hSw; (try dsimp only at hSw); go_simp) <;> (try with_reducible rfl))
                try simp only [Act.put, List.setIfInBounds_toArray, List.set_cons_zero, List.set_cons_succ]
                refine wpAnyH_take (i := 3) (oi := { dst := some 26, op := Op.move (Operand.tmp 0), type := 26, pos := "ref.go:49", after := #[{ on := 2, ground := Ground.guard }], guard := some (2, true) }) (v := undef) rfl (by kernel_rfl) (by kernel_rfl) (by kernel_rfl) (fun _ _ _ h => h) (Or.inr ⟨by rfl, rfl⟩) (by assumption) ?_
                try simp only [Act.put, List.setIfInBounds_toArray, List.set_cons_zero, List.set_cons_succ]
                refine wpAnyH_take (i := 4) (oi := { dst := some 27, op := Op.move (Operand.tmp 8), type := 3, pos := "ref.go:49", after := #[{ on := 2, ground := Ground.guard }], guard := some (2, true) }) (v := undef) rfl (by kernel_rfl) (by kernel_rfl) (by kernel_rfl) (fun _ _ _ h => h) (Or.inr ⟨by rfl, rfl⟩) (by assumption) ?_
                try simp only [Act.put, List.setIfInBounds_toArray, List.set_cons_zero, List.set_cons_succ]
                refine wpAnyH_take (i := 5) (oi := { dst := some 28, op := Op.indexAddr 26 (Operand.tmp 26) (Operand.tmp 27), type := 0, pos := "ref.go:49", after := #[{ on := 3, ground := Ground.data }, { on := 4, ground := Ground.data }, { on := 2, ground := Ground.guard }], guard := some (2, true) }) (v := undef) rfl (by kernel_rfl) (by kernel_rfl) (by kernel_rfl) (fun _ _ _ h => h) (Or.inr ⟨by rfl, rfl⟩) (by assumption) ?_
                try simp only [Act.put, List.setIfInBounds_toArray, List.set_cons_zero, List.set_cons_succ]
                refine wpAnyH_take (i := 6) (oi := { dst := some 29, op := Op.load 30 (Operand.tmp 28), type := 30, pos := "ref.go:49", after := #[{ on := 5, ground := Ground.data }, { on := 2, ground := Ground.guard }], guard := some (2, true) }) (v := undef) rfl (by kernel_rfl) (by kernel_rfl) (by kernel_rfl) (fun _ _ _ h => h) (Or.inr ⟨by rfl, rfl⟩) (by assumption) ?_
                try simp only [Act.put, List.setIfInBounds_toArray, List.set_cons_zero, List.set_cons_succ]
                refine wpAnyH_take (i := 7) (oi := { dst := some 30, op := Op.load 30 (Operand.tmp 3), type := 30, pos := "ref.go:49", after := #[{ on := 2, ground := Ground.guard }], guard := some (2, true) }) (v := undef) rfl (by kernel_rfl) (by kernel_rfl) (by kernel_rfl) (fun _ _ _ h => h) (Or.inr ⟨by rfl, rfl⟩) (by assumption) ?_
                try simp only [Act.put, List.setIfInBounds_toArray, List.set_cons_zero, List.set_cons_succ]
                refine wpAnyH_take (i := 8) (oi := { dst := some 31, op := Op.call { callee := Callee.value (Operand.func 37), args := #[Operand.tmp 29, Operand.tmp 30], argTypes := #[30, 30] }, type := 4, pos := "ref.go:49", after := #[{ on := 6, ground := Ground.data }, { on := 7, ground := Ground.data }, { on := 2, ground := Ground.chain }, { on := 2, ground := Ground.guard }], guard := some (2, true) }) (v := undef) rfl (by kernel_rfl) (by kernel_rfl) (by kernel_rfl) (fun _ _ _ h => h) (Or.inr ⟨by rfl, rfl⟩) (by assumption) ?_
                try simp only [Act.put, List.setIfInBounds_toArray, List.set_cons_zero, List.set_cons_succ]
                refine wpAnyH_take (i := 9) (oi := { dst := some 32, op := Op.unOp UnOp.not 4 (Operand.tmp 31), type := 4, pos := "ref.go:49", after := #[{ on := 8, ground := Ground.data }, { on := 2, ground := Ground.guard }], guard := some (2, true) }) (v := undef) rfl (by kernel_rfl) (by kernel_rfl) (by kernel_rfl) (fun _ _ _ h => h) (Or.inr ⟨by rfl, rfl⟩) (by assumption) ?_
                try simp only [Act.put, List.setIfInBounds_toArray, List.set_cons_zero, List.set_cons_succ]
                refine wpAnyH_take (i := 10) (oi := { dst := some 33, op := Op.pick (Operand.tmp 25) (Operand.tmp 32) (Operand.const (Value.bool false)), type := 4, pos := "ref.go:49", after := #[{ on := 2, ground := Ground.data }, { on := 9, ground := Ground.data }], guard := none }) (v := ?_) rfl (by kernel_rfl) (by kernel_rfl) (by kernel_rfl) (fun _ _ _ h => h) (Or.inl ⟨by rfl, ?_⟩) (by assumption) ?_
                rotate_left
                focus ((intro w hSw; (try dsimp only at hSw); go_simp) <;> (try with_reducible rfl))
                try simp only [Act.put, List.setIfInBounds_toArray, List.set_cons_zero, List.set_cons_succ]
                refine wpAnyH_done (by kernel_rfl) ?_ _
                replace HB := HBd
                replace HPB := HPd
                replace HO := HOd
                clear HBd HPd HOd
                generalize wr.drew = w5 at *
                clear dd0 dd1 dd2 dd3 dd4 k0 k1 k2 k3 k4 hA hg2
                have dd0 := HPB.out.c0; have dd1 := HPB.out.c1; have dd2 := HPB.out.c2; have dd3 := HPB.out.c3; have dd4 := HPB.out.c4
                simp only at dd0 dd1 dd2 dd3 dd4
                obtain ⟨k0, k1, k2, k3, k4⟩ := HXC.out _ HB.out
                simp only at k0 k1 k2 k3 k4
                have hA := HPB.out.hi
                have hg2 := Nat.lt_of_lt_of_le hg HB.out.size
                go_wp2_with fail
                have HBd := Lib.hid HB.out.drew
                have HPd := Lib.hid (HPB.out.below (Below.refl _ _).drew)
                have HOd := Lib.hid (ownsRow_below HO.out (Below.refl _ _).drew)
                refine wp_region_held_drew (S := fun w' => w'.cell? ⟨w.heap.size, 0, none⟩ = some (.int .i64 s) ∧ w'.cell? ⟨w.heap.size, 1, none⟩ = some (.int .i64 c) ∧ w'.cell? ⟨w.heap.size, 2, none⟩ = some (.int .i64 f) ∧ w'.cell? ⟨w.heap.size, 3, none⟩ = some (.bool p) ∧ w'.cell? ⟨w.heap.size, 4, none⟩ = some (.bool q) ∧ w'.cell? ⟨g, k * 5, none⟩ = some (.int .i64 es) ∧ w'.cell? ⟨g, k * 5 + 1, none⟩ = some (.int .i64 ec) ∧ w'.cell? ⟨g, k * 5 + 2, none⟩ = some (.int .i64 ef) ∧ w'.cell? ⟨g, k * 5 + 3, none⟩ = some (.bool ep) ∧ w'.cell? ⟨g, k * 5 + 4, none⟩ = some (.bool eb)) (by kernel_rfl) (by (try dsimp only); go_keep) (fun hHeld => ?_)
                refine wpAnyH_take (i := 0) (oi := { dst := some 38, op := Op.move (Operand.tmp 0), type := 26, pos := "ref.go:53", after := #[], guard := none }) (v := ?_) rfl (by kernel_rfl) (by kernel_rfl) (by kernel_rfl) (fun _ _ _ h => h) (Or.inl ⟨by rfl, ?_⟩) (by assumption) ?_
                rotate_left
                focus ((intro w hSw; (try dsimp only at hSw); go_simp) <;> (try with_reducible rfl))
                try simp only [Act.put, List.setIfInBounds_toArray, List.set_cons_zero, List.set_cons_succ]
                refine wpAnyH_take (i := 1) (oi := { dst := some 39, op := Op.move (Operand.tmp 8), type := 3, pos := "ref.go:53", after := #[], guard := none }) (v := ?_) rfl (by kernel_rfl) (by kernel_rfl) (by kernel_rfl) (fun _ _ _ h => h) (Or.inl ⟨by rfl, ?_⟩) (by assumption) ?_
                rotate_left
                focus ((intro w hSw; (try dsimp only at hSw); go_simp) <;> (try with_reducible rfl))
                try simp only [Act.put, List.setIfInBounds_toArray, List.set_cons_zero, List.set_cons_succ]
                refine wpAnyH_take (i := 2) (oi := { dst := some 40, op := Op.indexAddr 26 (Operand.tmp 38) (Operand.tmp 39), type := 0, pos := "ref.go:53", after := #[{ on := 0, ground := Ground.data }, { on := 1, ground := Ground.data }], guard := none }) (v := ?_) rfl (by kernel_rfl) (by kernel_rfl) (by kernel_rfl) (fun _ _ _ h => h) (Or.inl ⟨by rfl, ?_⟩) (by assumption) ?_
                rotate_left
                focus ((intro w hSw; (try dsimp only at hSw); go_simp) <;> (try with_reducible rfl))
                try simp only [Act.put, List.setIfInBounds_toArray, List.set_cons_zero, List.set_cons_succ]
                refine wpAnyH_take (i := 3) (oi := { dst := some 41, op := Op.load 30 (Operand.tmp 40), type := 30, pos := "ref.go:53", after := #[{ on := 2, ground := Ground.data }], guard := none }) (v := ?_) rfl (by kernel_rfl) (by kernel_rfl) (by kernel_rfl) (fun _ _ _ h => h) (Or.inl ⟨by rfl, ?_⟩) (by assumption) ?_
                rotate_left
                focus ((intro w hSw; (try dsimp only at hSw); go_simp) <;> (try with_reducible rfl))
                try simp only [Act.put, List.setIfInBounds_toArray, List.set_cons_zero, List.set_cons_succ]
                refine wpAnyH_take (i := 4) (oi := { dst := some 42, op := Op.load 30 (Operand.tmp 3), type := 30, pos := "ref.go:53", after := #[], guard := none }) (v := ?_) rfl (by kernel_rfl) (by kernel_rfl) (by kernel_rfl) (fun _ _ _ h => h) (Or.inl ⟨by rfl, ?_⟩) (by assumption) ?_
                rotate_left
                focus ((intro w hSw; (try dsimp only at hSw); go_simp) <;> (try with_reducible rfl))
                try simp only [Act.put, List.setIfInBounds_toArray, List.set_cons_zero, List.set_cons_succ]
                refine wpAnyH_ready (rs := [5]) (by kernel_rfl) (by simp) ?_
                refine AllReadyH.cons (o := { dst := some 43, op := Op.call { callee := Callee.value (Operand.func 37), args := #[Operand.tmp 41, Operand.tmp 42], argTypes := #[30, 30] }, type := 4, pos := "ref.go:53", after := #[{ on := 3, ground := Ground.data }, { on := 4, ground := Ground.data }], guard := none }) rfl (fun K hK => ?_) AllReadyH.nil
                go_simp
                (first | (go_at_call 37; refine (HLA.out _).mono ?_; rintro e w6 ⟨rfl, hb⟩; have jj0 := (hb.cell (p := ⟨w.heap.size, 0, none⟩) hA).trans dd0; have jj1 := (hb.cell (p := ⟨w.heap.size, 1, none⟩) hA).trans dd1; have jj2 := (hb.cell (p := ⟨w.heap.size, 2, none⟩) hA).trans dd2; have jj3 := (hb.cell (p := ⟨w.heap.size, 3, none⟩) hA).trans dd3; have jj4 := (hb.cell (p := ⟨w.heap.size, 4, none⟩) hA).trans dd4; have ii0 := (hb.cell (p := ⟨g, k * 5, none⟩) hg2).trans k0; have ii1 := (hb.cell (p := ⟨g, k * 5 + 1, none⟩) hg2).trans k1; have ii2 := (hb.cell (p := ⟨g, k * 5 + 2, none⟩) hg2).trans k2; have ii3 := (hb.cell (p := ⟨g, k * 5 + 3, none⟩) hg2).trans k3; have ii4 := (hb.cell (p := ⟨g, k * 5 + 4, none⟩) hg2).trans k4; replace HB := Lib.hid (HBd.out.trans (hb.mono HBd.out.size)); replace HPB := Lib.hid (HPd.out.below hb); replace HO := Lib.hid (ownsRow_below HOd.out hb)))
                go_wp2_with fail
                refine hK.out _ _ (by (try dsimp only); go_keep) (fun hHeld => ?_)
                clear hK K
                try simp only [Act.put, List.setIfInBounds_toArray, List.set_cons_zero, List.set_cons_succ]
                refine wpAnyH_take (i := 6) (oi := { dst := some 44, op := Op.move (Operand.tmp 43), type := 4, pos := "ref.go:53", after := #[{ on := 5, ground := Ground.data }, { on := 5, ground := Ground.chain }], guard := none }) (v := ?_) rfl (by kernel_rfl) (by kernel_rfl) (by kernel_rfl) (fun _ _ _ h => h) (Or.inl ⟨by rfl, ?_⟩) (by assumption) ?_
                rotate_left
                focus ((intro w hSw; (try dsimp only at hSw); go_simp) <;> (try with_reducible rfl))
                try simp only [Act.put, List.setIfInBounds_toArray, List.set_cons_zero, List.set_cons_succ]
                refine wpAnyH_take (i := 7) (oi := { dst := some 45, op := Op.load 30 (Operand.tmp 3), type := 30, pos := "ref.go:53", after := #[{ on := 6, ground := Ground.guard }], guard := some (6, false) }) (v := ?_) rfl (by kernel_rfl) (by kernel_rfl) (by kernel_rfl) (fun _ _ _ h => h) (Or.inl ⟨by rfl, ?_⟩) (by assumption) ?_
                rotate_left
                focus ((intro w hSw; (try dsimp only at hSw); go_simp) <;> (try with_reducible rfl))
                try simp only [Act.put, List.setIfInBounds_toArray, List.set_cons_zero, List.set_cons_succ]
                refine wpAnyH_take (i := 8) (oi := { dst := some 46, op := Op.move (Operand.tmp 0), type := 26, pos := "ref.go:53", after := #[{ on := 6, ground := Ground.guard }], guard := some (6, false) }) (v := ?_) rfl (by kernel_rfl) (by kernel_rfl) (by kernel_rfl) (fun _ _ _ h => h) (Or.inl ⟨by rfl, ?_⟩) (by assumption) ?_
                rotate_left
                focus ((intro w hSw; (try dsimp only at hSw); go_simp) <;> (try with_reducible rfl))
                try simp only [Act.put, List.setIfInBounds_toArray, List.set_cons_zero, List.set_cons_succ]
                refine wpAnyH_take (i := 9) (oi := { dst := some 47, op := Op.move (Operand.tmp 8), type := 3, pos := "ref.go:53", after := #[{ on := 6, ground := Ground.guard }], guard := some (6, false) }) (v := ?_) rfl (by kernel_rfl) (by kernel_rfl) (by kernel_rfl) (fun _ _ _ h => h) (Or.inl ⟨by rfl, ?_⟩) (by assumption) ?_
                rotate_left
                focus ((intro w hSw; (try dsimp only at hSw); go_simp) <;> (try with_reducible rfl))
                try simp only [Act.put, List.setIfInBounds_toArray, List.set_cons_zero, List.set_cons_succ]
                refine wpAnyH_take (i := 10) (oi := { dst := some 48, op := Op.indexAddr 26 (Operand.tmp 46) (Operand.tmp 47), type := 0, pos := "ref.go:53", after := #[{ on := 8, ground := Ground.data }, { on := 9, ground := Ground.data }, { on := 6, ground := Ground.guard }], guard := some (6, false) }) (v := ?_) rfl (by kernel_rfl) (by kernel_rfl) (by kernel_rfl) (fun _ _ _ h => h) (Or.inl ⟨by rfl, ?_⟩) (by assumption) ?_
                rotate_left
                focus ((intro w hSw; (try dsimp only at hSw); go_simp) <;> (try with_reducible rfl))
                try simp only [Act.put, List.setIfInBounds_toArray, List.set_cons_zero, List.set_cons_succ]
                refine wpAnyH_take (i := 11) (oi := { dst := some 49, op := Op.load 30 (Operand.tmp 48), type := 30, pos := "ref.go:53", after := #[{ on := 10, ground := Ground.data }, { on := 6, ground := Ground.guard }], guard := some (6, false) }) (v := ?_) rfl (by kernel_rfl) (by kernel_rfl) (by kernel_rfl) (fun _ _ _ h => h) (Or.inl ⟨by rfl, ?_⟩) (by assumption) ?_
                rotate_left
                focus ((intro w hSw; (try dsimp only at hSw); go_simp) <;> (try with_reducible rfl))
                try simp only [Act.put, List.setIfInBounds_toArray, List.set_cons_zero, List.set_cons_succ]
                refine wpAnyH_ready (rs := [12]) (by kernel_rfl) (by simp) ?_
                refine AllReadyH.cons (o := { dst := some 50, op := Op.call { callee := Callee.value (Operand.func 37), args := #[Operand.tmp 45, Operand.tmp 49], argTypes := #[30, 30] }, type := 4, pos := "ref.go:53", after := #[{ on := 7, ground := Ground.data }, { on := 11, ground := Ground.data }, { on := 6, ground := Ground.chain }, { on := 6, ground := Ground.guard }], guard := some (6, false) }) rfl (fun K hK => ?_) AllReadyH.nil
                go_simp
                (first | (go_at_call 37; refine (HLB.out _).mono ?_; rintro e w7 ⟨rfl, hb2⟩; have mm0 := (hb2.cell (p := ⟨w.heap.size, 0, none⟩) (Nat.lt_of_lt_of_le hA hb.size)).trans jj0; have mm1 := (hb2.cell (p := ⟨w.heap.size, 1, none⟩) (Nat.lt_of_lt_of_le hA hb.size)).trans jj1; have mm2 := (hb2.cell (p := ⟨w.heap.size, 2, none⟩) (Nat.lt_of_lt_of_le hA hb.size)).trans jj2; have mm3 := (hb2.cell (p := ⟨w.heap.size, 3, none⟩) (Nat.lt_of_lt_of_le hA hb.size)).trans jj3; have mm4 := (hb2.cell (p := ⟨w.heap.size, 4, none⟩) (Nat.lt_of_lt_of_le hA hb.size)).trans jj4; have nn0 := (hb2.cell (p := ⟨g, k * 5, none⟩) (Nat.lt_of_lt_of_le hg2 hb.size)).trans ii0; have nn1 := (hb2.cell (p := ⟨g, k * 5 + 1, none⟩) (Nat.lt_of_lt_of_le hg2 hb.size)).trans ii1; have nn2 := (hb2.cell (p := ⟨g, k * 5 + 2, none⟩) (Nat.lt_of_lt_of_le hg2 hb.size)).trans ii2; have nn3 := (hb2.cell (p := ⟨g, k * 5 + 3, none⟩) (Nat.lt_of_lt_of_le hg2 hb.size)).trans ii3; have nn4 := (hb2.cell (p := ⟨g, k * 5 + 4, none⟩) (Nat.lt_of_lt_of_le hg2 hb.size)).trans ii4; replace HB := Lib.hid (HB.out.trans (hb2.mono HB.out.size)); replace HPB := Lib.hid (HPB.out.below hb2); replace HO := Lib.hid (ownsRow_below HO.out hb2)))
                go_wp2_with fail
                refine hK.out _ _ (by (try dsimp only); go_keep) (fun hHeld => ?_)
                clear hK K
                try simp only [Act.put, List.setIfInBounds_toArray, List.set_cons_zero, List.set_cons_succ]
                refine wpAnyH_take (i := 13) (oi := { dst := some 51, op := Op.pick (Operand.tmp 44) (Operand.const (Value.bool true)) (Operand.tmp 50), type := 4, pos := "ref.go:53", after := #[{ on := 6, ground := Ground.data }, { on := 12, ground := Ground.data }], guard := none }) (v := ?_) rfl (by kernel_rfl) (by kernel_rfl) (by kernel_rfl) (fun _ _ _ h => h) (Or.inl ⟨by rfl, ?_⟩) (by assumption) ?_
                rotate_left
                focus ((intro w hSw; (try dsimp only at hSw); go_simp) <;> (try with_reducible rfl))
                try simp only [Act.put, List.setIfInBounds_toArray, List.set_cons_zero, List.set_cons_succ]
                refine wpAnyH_done (by kernel_rfl) ?_ _
                clear hb HBd HPd HOd jj0 jj1 jj2 jj3 jj4 ii0 ii1 ii2 ii3 ii4 hb2 mm0 mm1 mm2 mm3 mm4 nn0 nn1 nn2 nn3 nn4
                clear dd0 dd1 dd2 dd3 dd4 k0 k1 k2 k3 k4 hA hg2
                have dd0 := HPB.out.c0; have dd1 := HPB.out.c1; have dd2 := HPB.out.c2; have dd3 := HPB.out.c3; have dd4 := HPB.out.c4
                simp only at dd0 dd1 dd2 dd3 dd4
                obtain ⟨k0, k1, k2, k3, k4⟩ := HXC.out _ HB.out
                simp only at k0 k1 k2 k3 k4
                have hA := HPB.out.hi
                have hg2 := Nat.lt_of_lt_of_le hg HB.out.size
                go_wp2_with fail
                go_roundw
                case rel => exact ⟨k + 1, by omega, by go_num, by rw [HS.out], HB, HPB, by rw [HS.out]; exact HO⟩
                case measure => simp [intOf]; omega
          | false =>
            cases b1 with
            | true =>
              have HS := Lib.hid HSU.out
              clear HSU
              simp only [Bool.not_false, Bool.not_true, Bool.and_true, Bool.true_and, Bool.and_false, Bool.false_and, Bool.or_true, Bool.true_or, Bool.or_false, Bool.false_or, Bool.false_eq_true, if_true, if_false, List.append_nil] at HS
              go_wp2_with fail
              have HBd := Lib.hid HB.out.drew
              have HPd := Lib.hid (HPB.out.below (Below.refl _ _).drew)
              have HOd := Lib.hid (ownsRow_below HO.out (Below.refl _ _).drew)
              refine wp_region_held_drew (S := fun w' => w'.cell? ⟨w.heap.size, 0, none⟩ = some (.int .i64 s) ∧ w'.cell? ⟨w.heap.size, 1, none⟩ = some (.int .i64 c) ∧ w'.cell? ⟨w.heap.size, 2, none⟩ = some (.int .i64 f) ∧ w'.cell? ⟨w.heap.size, 3, none⟩ = some (.bool p) ∧ w'.cell? ⟨w.heap.size, 4, none⟩ = some (.bool q) ∧ w'.cell? ⟨g, k * 5, none⟩ = some (.int .i64 es) ∧ w'.cell? ⟨g, k * 5 + 1, none⟩ = some (.int .i64 ec) ∧ w'.cell? ⟨g, k * 5 + 2, none⟩ = some (.int .i64 ef) ∧ w'.cell? ⟨g, k * 5 + 3, none⟩ = some (.bool ep) ∧ w'.cell? ⟨g, k * 5 + 4, none⟩ = some (.bool eb)) (by kernel_rfl) (by (try dsimp only); go_keep) (fun hHeld => ?_)
              refine wpAnyH_take (i := 0) (oi := { dst := some 23, op := Op.move (Operand.tmp 7), type := 4, pos := "ref.go:49", after := #[], guard := none }) (v := ?_) rfl (by kernel_rfl) (by kernel_rfl) (by kernel_rfl) (fun _ _ _ h => h) (Or.inl ⟨by rfl, ?_⟩) (by assumption) ?_
              rotate_left
              focus ((intro w hSw; (try dsimp only at hSw); go_simp) <;> (try with_reducible rfl))
              try simp only [Act.put, List.setIfInBounds_toArray, List.set_cons_zero, List.set_cons_succ]
              refine wpAnyH_take (i := 1) (oi := { dst := some 24, op := Op.unOp UnOp.not 4 (Operand.tmp 23), type := 4, pos := "ref.go:49", after := #[{ on := 0, ground := Ground.data }], guard := none }) (v := ?_) rfl (by kernel_rfl) (by kernel_rfl) (by kernel_rfl) (fun _ _ _ h => h) (Or.inl ⟨by rfl, ?_⟩) (by assumption) ?_
              rotate_left
              focus ((intro w hSw; (try dsimp only at hSw); go_simp) <;> (try with_reducible rfl))
              try simp only [Act.put, List.setIfInBounds_toArray, List.set_cons_zero, List.set_cons_succ]
              refine wpAnyH_take (i := 2) (oi := { dst := some 25, op := Op.move (Operand.tmp 24), type := 4, pos := "ref.go:49", after := #[{ on := 1, ground := Ground.data }], guard := none }) (v := ?_) rfl (by kernel_rfl) (by kernel_rfl) (by kernel_rfl) (fun _ _ _ h => h) (Or.inl ⟨by rfl, ?_⟩) (by assumption) ?_
              rotate_left
              focus ((intro w hSw; (try dsimp only at hSw); go_simp) <;> (try with_reducible rfl))
              try simp only [Act.put, List.setIfInBounds_toArray, List.set_cons_zero, List.set_cons_succ]
              refine wpAnyH_take (i := 3) (oi := { dst := some 26, op := Op.move (Operand.tmp 0), type := 26, pos := "ref.go:49", after := #[{ on := 2, ground := Ground.guard }], guard := some (2, true) }) (v := ?_) rfl (by kernel_rfl) (by kernel_rfl) (by kernel_rfl) (fun _ _ _ h => h) (Or.inl ⟨by rfl, ?_⟩) (by assumption) ?_
              rotate_left
              focus ((intro w hSw; (try dsimp only at hSw); go_simp) <;> (try with_reducible rfl))
              try simp only [Act.put, List.setIfInBounds_toArray, List.set_cons_zero, List.set_cons_succ]
              refine wpAnyH_take (i := 4) (oi := { dst := some 27, op := Op.move (Operand.tmp 8), type := 3, pos := "ref.go:49", after := #[{ on := 2, ground := Ground.guard }], guard := some (2, true) }) (v := ?_) rfl (by kernel_rfl) (by kernel_rfl) (by kernel_rfl) (fun _ _ _ h => h) (Or.inl ⟨by rfl, ?_⟩) (by assumption) ?_
              rotate_left
              focus ((intro w hSw; (try dsimp only at hSw); go_simp) <;> (try with_reducible rfl))
              try simp only [Act.put, List.setIfInBounds_toArray, List.set_cons_zero, List.set_cons_succ]
              refine wpAnyH_take (i := 5) (oi := { dst := some 28, op := Op.indexAddr 26 (Operand.tmp 26) (Operand.tmp 27), type := 0, pos := "ref.go:49", after := #[{ on := 3, ground := Ground.data }, { on := 4, ground := Ground.data }, { on := 2, ground := Ground.guard }], guard := some (2, true) }) (v := ?_) rfl (by kernel_rfl) (by kernel_rfl) (by kernel_rfl) (fun _ _ _ h => h) (Or.inl ⟨by rfl, ?_⟩) (by assumption) ?_
              rotate_left
              focus ((intro w hSw; (try dsimp only at hSw); go_simp) <;> (try with_reducible rfl))
              try simp only [Act.put, List.setIfInBounds_toArray, List.set_cons_zero, List.set_cons_succ]
              refine wpAnyH_take (i := 6) (oi := { dst := some 29, op := Op.load 30 (Operand.tmp 28), type := 30, pos := "ref.go:49", after := #[{ on := 5, ground := Ground.data }, { on := 2, ground := Ground.guard }], guard := some (2, true) }) (v := ?_) rfl (by kernel_rfl) (by kernel_rfl) (by kernel_rfl) (fun _ _ _ h => h) (Or.inl ⟨by rfl, ?_⟩) (by assumption) ?_
              rotate_left
              focus ((intro w hSw; (try dsimp only at hSw); go_simp) <;> (try with_reducible rfl))
              try simp only [Act.put, List.setIfInBounds_toArray, List.set_cons_zero, List.set_cons_succ]
              refine wpAnyH_take (i := 7) (oi := { dst := some 30, op := Op.load 30 (Operand.tmp 3), type := 30, pos := "ref.go:49", after := #[{ on := 2, ground := Ground.guard }], guard := some (2, true) }) (v := ?_) rfl (by kernel_rfl) (by kernel_rfl) (by kernel_rfl) (fun _ _ _ h => h) (Or.inl ⟨by rfl, ?_⟩) (by assumption) ?_
              rotate_left
              focus ((intro w hSw; (try dsimp only at hSw); go_simp) <;> (try with_reducible rfl))
              try simp only [Act.put, List.setIfInBounds_toArray, List.set_cons_zero, List.set_cons_succ]
              refine wpAnyH_ready (rs := [8]) (by kernel_rfl) (by simp) ?_
              refine AllReadyH.cons (o := { dst := some 31, op := Op.call { callee := Callee.value (Operand.func 37), args := #[Operand.tmp 29, Operand.tmp 30], argTypes := #[30, 30] }, type := 4, pos := "ref.go:49", after := #[{ on := 6, ground := Ground.data }, { on := 7, ground := Ground.data }, { on := 2, ground := Ground.chain }, { on := 2, ground := Ground.guard }], guard := some (2, true) }) rfl (fun K hK => ?_) AllReadyH.nil
              go_simp
              (first | (go_at_call 37; refine (HLA.out _).mono ?_; rintro e w5 ⟨rfl, hb⟩; have jj0 := (hb.cell (p := ⟨w.heap.size, 0, none⟩) hA).trans dd0; have jj1 := (hb.cell (p := ⟨w.heap.size, 1, none⟩) hA).trans dd1; have jj2 := (hb.cell (p := ⟨w.heap.size, 2, none⟩) hA).trans dd2; have jj3 := (hb.cell (p := ⟨w.heap.size, 3, none⟩) hA).trans dd3; have jj4 := (hb.cell (p := ⟨w.heap.size, 4, none⟩) hA).trans dd4; have ii0 := (hb.cell (p := ⟨g, k * 5, none⟩) hg2).trans k0; have ii1 := (hb.cell (p := ⟨g, k * 5 + 1, none⟩) hg2).trans k1; have ii2 := (hb.cell (p := ⟨g, k * 5 + 2, none⟩) hg2).trans k2; have ii3 := (hb.cell (p := ⟨g, k * 5 + 3, none⟩) hg2).trans k3; have ii4 := (hb.cell (p := ⟨g, k * 5 + 4, none⟩) hg2).trans k4; replace HB := Lib.hid (HBd.out.trans (hb.mono HBd.out.size)); replace HPB := Lib.hid (HPd.out.below hb); replace HO := Lib.hid (ownsRow_below HOd.out hb)))
              go_wp2_with fail
              refine hK.out _ _ (by (try dsimp only); go_keep) (fun hHeld => ?_)
              clear hK K
              try simp only [Act.put, List.setIfInBounds_toArray, List.set_cons_zero, List.set_cons_succ]
              refine wpAnyH_take (i := 9) (oi := { dst := some 32, op := Op.unOp UnOp.not 4 (Operand.tmp 31), type := 4, pos := "ref.go:49", after := #[{ on := 8, ground := Ground.data }, { on := 2, ground := Ground.guard }], guard := some (2, true) }) (v := ?_) rfl (by kernel_rfl) (by kernel_rfl) (by kernel_rfl) (fun _ _ _ h => h) (Or.inl ⟨by rfl, ?_⟩) (by assumption) ?_
              rotate_left
              focus ((intro w hSw; (try dsimp only at hSw); go_simp) <;> (try with_reducible rfl))
              try simp only [Act.put, List.setIfInBounds_toArray, List.set_cons_zero, List.set_cons_succ]
              refine wpAnyH_take (i := 10) (oi := { dst := some 33, op := Op.pick (Operand.tmp 25) (Operand.tmp 32) (Operand.const (Value.bool false)), type := 4, pos := "ref.go:49", after := #[{ on := 2, ground := Ground.data }, { on := 9, ground := Ground.data }], guard := none }) (v := ?_) rfl (by kernel_rfl) (by kernel_rfl) (by kernel_rfl) (fun _ _ _ h => h) (Or.inl ⟨by rfl, ?_⟩) (by assumption) ?_
              rotate_left
              focus ((intro w hSw; (try dsimp only at hSw); go_simp) <;> (try with_reducible rfl))
              try simp only [Act.put, List.setIfInBounds_toArray, List.set_cons_zero, List.set_cons_succ]
              refine wpAnyH_done (by kernel_rfl) ?_ _
              clear hb HBd HPd HOd jj0 jj1 jj2 jj3 jj4 ii0 ii1 ii2 ii3 ii4
              clear dd0 dd1 dd2 dd3 dd4 k0 k1 k2 k3 k4 hA hg2
              have dd0 := HPB.out.c0; have dd1 := HPB.out.c1; have dd2 := HPB.out.c2; have dd3 := HPB.out.c3; have dd4 := HPB.out.c4
              simp only at dd0 dd1 dd2 dd3 dd4
              obtain ⟨k0, k1, k2, k3, k4⟩ := HXC.out _ HB.out
              simp only at k0 k1 k2 k3 k4
              have hA := HPB.out.hi
              have hg2 := Nat.lt_of_lt_of_le hg HB.out.size
              go_wp2_with fail
              have HBd := Lib.hid HB.out.drew
              have HPd := Lib.hid (HPB.out.below (Below.refl _ _).drew)
              have HOd := Lib.hid (ownsRow_below HO.out (Below.refl _ _).drew)
              refine wp_region_held_drew (S := fun w' => w'.cell? ⟨w.heap.size, 0, none⟩ = some (.int .i64 s) ∧ w'.cell? ⟨w.heap.size, 1, none⟩ = some (.int .i64 c) ∧ w'.cell? ⟨w.heap.size, 2, none⟩ = some (.int .i64 f) ∧ w'.cell? ⟨w.heap.size, 3, none⟩ = some (.bool p) ∧ w'.cell? ⟨w.heap.size, 4, none⟩ = some (.bool q) ∧ w'.cell? ⟨g, k * 5, none⟩ = some (.int .i64 es) ∧ w'.cell? ⟨g, k * 5 + 1, none⟩ = some (.int .i64 ec) ∧ w'.cell? ⟨g, k * 5 + 2, none⟩ = some (.int .i64 ef) ∧ w'.cell? ⟨g, k * 5 + 3, none⟩ = some (.bool ep) ∧ w'.cell? ⟨g, k * 5 + 4, none⟩ = some (.bool eb)) (by kernel_rfl) (by (try dsimp only); go_keep) (fun hHeld => ?_)
              refine wpAnyH_take (i := 0) (oi := { dst := some 38, op := Op.move (Operand.tmp 0), type := 26, pos := "ref.go:53", after := #[], guard := none }) (v := ?_) rfl (by kernel_rfl) (by kernel_rfl) (by kernel_rfl) (fun _ _ _ h => h) (Or.inl ⟨by rfl, ?_⟩) (by assumption) ?_
              rotate_left
              focus ((intro w hSw; (try dsimp only at hSw); go_simp) <;> (try with_reducible rfl))
              try simp only [Act.put, List.setIfInBounds_toArray, List.set_cons_zero, List.set_cons_succ]
              refine wpAnyH_take (i := 1) (oi := { dst := some 39, op := Op.move (Operand.tmp 8), type := 3, pos := "ref.go:53", after := #[], guard := none }) (v := ?_) rfl (by kernel_rfl) (by kernel_rfl) (by kernel_rfl) (fun _ _ _ h => h) (Or.inl ⟨by rfl, ?_⟩) (by assumption) ?_
              rotate_left
              focus ((intro w hSw; (try dsimp only at hSw); go_simp) <;> (try with_reducible rfl))
              try simp only [Act.put, List.setIfInBounds_toArray, List.set_cons_zero, List.set_cons_succ]
              refine wpAnyH_take (i := 2) (oi := { dst := some 40, op := Op.indexAddr 26 (Operand.tmp 38) (Operand.tmp 39), type := 0, pos := "ref.go:53", after := #[{ on := 0, ground := Ground.data }, { on := 1, ground := Ground.data }], guard := none }) (v := ?_) rfl (by kernel_rfl) (by kernel_rfl) (by kernel_rfl) (fun _ _ _ h => h) (Or.inl ⟨by rfl, ?_⟩) (by assumption) ?_
              rotate_left
              focus ((intro w hSw; (try dsimp only at hSw); go_simp) <;> (try with_reducible rfl))
              try simp only [Act.put, List.setIfInBounds_toArray, List.set_cons_zero, List.set_cons_succ]
              refine wpAnyH_take (i := 3) (oi := { dst := some 41, op := Op.load 30 (Operand.tmp 40), type := 30, pos := "ref.go:53", after := #[{ on := 2, ground := Ground.data }], guard := none }) (v := ?_) rfl (by kernel_rfl) (by kernel_rfl) (by kernel_rfl) (fun _ _ _ h => h) (Or.inl ⟨by rfl, ?_⟩) (by assumption) ?_
              rotate_left
              focus ((intro w hSw; (try dsimp only at hSw); go_simp) <;> (try with_reducible rfl))
              try simp only [Act.put, List.setIfInBounds_toArray, List.set_cons_zero, List.set_cons_succ]
              refine wpAnyH_take (i := 4) (oi := { dst := some 42, op := Op.load 30 (Operand.tmp 3), type := 30, pos := "ref.go:53", after := #[], guard := none }) (v := ?_) rfl (by kernel_rfl) (by kernel_rfl) (by kernel_rfl) (fun _ _ _ h => h) (Or.inl ⟨by rfl, ?_⟩) (by assumption) ?_
              rotate_left
              focus ((intro w hSw; (try dsimp only at hSw); go_simp) <;> (try with_reducible rfl))
              try simp only [Act.put, List.setIfInBounds_toArray, List.set_cons_zero, List.set_cons_succ]
              refine wpAnyH_ready (rs := [5]) (by kernel_rfl) (by simp) ?_
              refine AllReadyH.cons (o := { dst := some 43, op := Op.call { callee := Callee.value (Operand.func 37), args := #[Operand.tmp 41, Operand.tmp 42], argTypes := #[30, 30] }, type := 4, pos := "ref.go:53", after := #[{ on := 3, ground := Ground.data }, { on := 4, ground := Ground.data }], guard := none }) rfl (fun K hK => ?_) AllReadyH.nil
              go_simp
              (first | (go_at_call 37; refine (HLA.out _).mono ?_; rintro e w6 ⟨rfl, hb⟩; have jj0 := (hb.cell (p := ⟨w.heap.size, 0, none⟩) hA).trans dd0; have jj1 := (hb.cell (p := ⟨w.heap.size, 1, none⟩) hA).trans dd1; have jj2 := (hb.cell (p := ⟨w.heap.size, 2, none⟩) hA).trans dd2; have jj3 := (hb.cell (p := ⟨w.heap.size, 3, none⟩) hA).trans dd3; have jj4 := (hb.cell (p := ⟨w.heap.size, 4, none⟩) hA).trans dd4; have ii0 := (hb.cell (p := ⟨g, k * 5, none⟩) hg2).trans k0; have ii1 := (hb.cell (p := ⟨g, k * 5 + 1, none⟩) hg2).trans k1; have ii2 := (hb.cell (p := ⟨g, k * 5 + 2, none⟩) hg2).trans k2; have ii3 := (hb.cell (p := ⟨g, k * 5 + 3, none⟩) hg2).trans k3; have ii4 := (hb.cell (p := ⟨g, k * 5 + 4, none⟩) hg2).trans k4; replace HB := Lib.hid (HBd.out.trans (hb.mono HBd.out.size)); replace HPB := Lib.hid (HPd.out.below hb); replace HO := Lib.hid (ownsRow_below HOd.out hb)))
              go_wp2_with fail
              refine hK.out _ _ (by (try dsimp only); go_keep) (fun hHeld => ?_)
              clear hK K
              try simp only [Act.put, List.setIfInBounds_toArray, List.set_cons_zero, List.set_cons_succ]
              refine wpAnyH_take (i := 6) (oi := { dst := some 44, op := Op.move (Operand.tmp 43), type := 4, pos := "ref.go:53", after := #[{ on := 5, ground := Ground.data }, { on := 5, ground := Ground.chain }], guard := none }) (v := ?_) rfl (by kernel_rfl) (by kernel_rfl) (by kernel_rfl) (fun _ _ _ h => h) (Or.inl ⟨by rfl, ?_⟩) (by assumption) ?_
              rotate_left
              focus ((intro w hSw; (try dsimp only at hSw); go_simp) <;> (try with_reducible rfl))
              try simp only [Act.put, List.setIfInBounds_toArray, List.set_cons_zero, List.set_cons_succ]
              refine wpAnyH_take (i := 7) (oi := { dst := some 45, op := Op.load 30 (Operand.tmp 3), type := 30, pos := "ref.go:53", after := #[{ on := 6, ground := Ground.guard }], guard := some (6, false) }) (v := undef) rfl (by kernel_rfl) (by kernel_rfl) (by kernel_rfl) (fun _ _ _ h => h) (Or.inr ⟨by rfl, rfl⟩) (by assumption) ?_
              try simp only [Act.put, List.setIfInBounds_toArray, List.set_cons_zero, List.set_cons_succ]
              refine wpAnyH_take (i := 8) (oi := { dst := some 46, op := Op.move (Operand.tmp 0), type := 26, pos := "ref.go:53", after := #[{ on := 6, ground := Ground.guard }], guard := some (6, false) }) (v := undef) rfl (by kernel_rfl) (by kernel_rfl) (by kernel_rfl) (fun _ _ _ h => h) (Or.inr ⟨by rfl, rfl⟩) (by assumption) ?_
              try simp only [Act.put, List.setIfInBounds_toArray, List.set_cons_zero, List.set_cons_succ]
              refine wpAnyH_take (i := 9) (oi := { dst := some 47, op := Op.move (Operand.tmp 8), type := 3, pos := "ref.go:53", after := #[{ on := 6, ground := Ground.guard }], guard := some (6, false) }) (v := undef) rfl (by kernel_rfl) (by kernel_rfl) (by kernel_rfl) (fun _ _ _ h => h) (Or.inr ⟨by rfl, rfl⟩) (by assumption) ?_
              try simp only [Act.put, List.setIfInBounds_toArray, List.set_cons_zero, List.set_cons_succ]
              refine wpAnyH_take (i := 10) (oi := { dst := some 48, op := Op.indexAddr 26 (Operand.tmp 46) (Operand.tmp 47), type := 0, pos := "ref.go:53", after := #[{ on := 8, ground := Ground.data }, { on := 9, ground := Ground.data }, { on := 6, ground := Ground.guard }], guard := some (6, false) }) (v := undef) rfl (by kernel_rfl) (by kernel_rfl) (by kernel_rfl) (fun _ _ _ h => h) (Or.inr ⟨by rfl, rfl⟩) (by assumption) ?_
              try simp only [Act.put, List.setIfInBounds_toArray, List.set_cons_zero, List.set_cons_succ]
              refine wpAnyH_take (i := 11) (oi := { dst := some 49, op := Op.load 30 (Operand.tmp 48), type := 30, pos := "ref.go:53", after := #[{ on := 10, ground := Ground.data }, { on := 6, ground := Ground.guard }], guard := some (6, false) }) (v := undef) rfl (by kernel_rfl) (by kernel_rfl) (by kernel_rfl) (fun _ _ _ h => h) (Or.inr ⟨by rfl, rfl⟩) (by assumption) ?_
              try simp only [Act.put, List.setIfInBounds_toArray, List.set_cons_zero, List.set_cons_succ]
              refine wpAnyH_take (i := 12) (oi := { dst := some 50, op := Op.call { callee := Callee.value (Operand.func 37), args := #[Operand.tmp 45, Operand.tmp 49], argTypes := #[30, 30] }, type := 4, pos := "ref.go:53", after := #[{ on := 7, ground := Ground.data }, { on := 11, ground := Ground.data }, { on := 6, ground := Ground.chain }, { on := 6, ground := Ground.guard }], guard := some (6, false) }) (v := undef) rfl (by kernel_rfl) (by kernel_rfl) (by kernel_rfl) (fun _ _ _ h => h) (Or.inr ⟨by rfl, rfl⟩) (by assumption) ?_
              try simp only [Act.put, List.setIfInBounds_toArray, List.set_cons_zero, List.set_cons_succ]
              refine wpAnyH_take (i := 13) (oi := { dst := some 51, op := Op.pick (Operand.tmp 44) (Operand.const (Value.bool true)) (Operand.tmp 50), type := 4, pos := "ref.go:53", after := #[{ on := 6, ground := Ground.data }, { on := 12, ground := Ground.data }], guard := none }) (v := ?_) rfl (by kernel_rfl) (by kernel_rfl) (by kernel_rfl) (fun _ _ _ h => h) (Or.inl ⟨by rfl, ?_⟩) (by assumption) ?_
              rotate_left
              focus ((intro w hSw; (try dsimp only at hSw); go_simp) <;> (try with_reducible rfl))
              try simp only [Act.put, List.setIfInBounds_toArray, List.set_cons_zero, List.set_cons_succ]
              refine wpAnyH_done (by kernel_rfl) ?_ _
              clear hb HBd HPd HOd jj0 jj1 jj2 jj3 jj4 ii0 ii1 ii2 ii3 ii4
              clear dd0 dd1 dd2 dd3 dd4 k0 k1 k2 k3 k4 hA hg2
              have dd0 := HPB.out.c0; have dd1 := HPB.out.c1; have dd2 := HPB.out.c2; have dd3 := HPB.out.c3; have dd4 := HPB.out.c4
              simp only at dd0 dd1 dd2 dd3 dd4
              obtain ⟨k0, k1, k2, k3, k4⟩ := HXC.out _ HB.out
              simp only at k0 k1 k2 k3 k4
              have hA := HPB.out.hi
              have hg2 := Nat.lt_of_lt_of_le hg HB.out.size
              go_wp2_with (at_builtin; refine wpList_append_own _ rfl _ _ 26 rfl (w.heap.size + 1) 30 i0 _ 5 32 Try.underlying26 hi hz0 hz1 hz2 rfl (by decide) _ _ _ rfl (HO.out.alloc _) ⟨w6.heap.size, 0, none⟩ 1 1 [.int .i64 es, .int .i64 ec, .int .i64 ef, .bool ep, .bool eb] rfl rfl ?c1 ?c2 ?c3 ?c4 ?c5 ?_)
              case c1 =>
                intro j u hj
                rw [Addr.add_lit]
                exact cells_at (Blk.new w6 es ec ef ep eb) j u hj
              case c2 =>
                intro u hu
                simp at hu
                rcases hu with rfl | rfl | rfl | rfl | rfl <;> rfl
              case c3 => unfold maxLen; (try simp only [List.length_append, List.length_singleton]); omega
              case c4 => (try simp only [List.length_append, List.length_singleton]); omega
              case c5 => have := HPB.out.hi; simp; omega
              intro vc wc hown' hgrow _
              have hbb : Below (w.heap.size + 1) w6 wc := ((Below.refl (w.heap.size + 1) w6).alloc HPB.out.hi (Obj.cells #[Value.int IntKind.i64 es, Value.int IntKind.i64 ec, Value.int IntKind.i64 ef, Value.bool ep, Value.bool eb] 30)).grown hgrow (by have := HPB.out.hi; simp; omega) (fun x hx => (HO.out.lt x hx).1)
              replace HB := Lib.hid (HB.out.trans (hbb.mono (Nat.le_succ _)))
              replace HPB := Lib.hid (HPB.out.belowB hbb (Nat.lt_succ_self _))
              replace HO : Hid (wc.ownsRow (w.heap.size + 1) 30 5 vc (L ++ [(Ar.mk es ec ef ep eb)]).length (flat (L ++ [(Ar.mk es ec ef ep eb)]))) := by
                unfold Hid
                rw [flat_append, flat_one]
                simp only [List.length_append, List.length_singleton]
                simpa [Ar.cells] using hown'
              clear hgrow hown' hbb
              go_wp2_with fail
              go_roundw
              case rel => exact ⟨k + 1, by omega, by go_num, by rw [HS.out], HB, HPB, by rw [HS.out]; exact HO⟩
              case measure => simp [intOf]; omega
            | false =>
              cases b2 with
              | true =>
                have HS := Lib.hid HSU.out
                clear HSU
                simp only [Bool.not_false, Bool.not_true, Bool.and_true, Bool.true_and, Bool.and_false, Bool.false_and, Bool.or_true, Bool.true_or, Bool.or_false, Bool.false_or, Bool.false_eq_true, if_true, if_false, List.append_nil] at HS
                go_wp2_with fail
                have HBd := Lib.hid HB.out.drew
                have HPd := Lib.hid (HPB.out.below (Below.refl _ _).drew)
                have HOd := Lib.hid (ownsRow_below HO.out (Below.refl _ _).drew)
                refine wp_region_held_drew (S := fun w' => w'.cell? ⟨w.heap.size, 0, none⟩ = some (.int .i64 s) ∧ w'.cell? ⟨w.heap.size, 1, none⟩ = some (.int .i64 c) ∧ w'.cell? ⟨w.heap.size, 2, none⟩ = some (.int .i64 f) ∧ w'.cell? ⟨w.heap.size, 3, none⟩ = some (.bool p) ∧ w'.cell? ⟨w.heap.size, 4, none⟩ = some (.bool q) ∧ w'.cell? ⟨g, k * 5, none⟩ = some (.int .i64 es) ∧ w'.cell? ⟨g, k * 5 + 1, none⟩ = some (.int .i64 ec) ∧ w'.cell? ⟨g, k * 5 + 2, none⟩ = some (.int .i64 ef) ∧ w'.cell? ⟨g, k * 5 + 3, none⟩ = some (.bool ep) ∧ w'.cell? ⟨g, k * 5 + 4, none⟩ = some (.bool eb)) (by kernel_rfl) (by (try dsimp only); go_keep) (fun hHeld => ?_)
                refine wpAnyH_take (i := 0) (oi := { dst := some 23, op := Op.move (Operand.tmp 7), type := 4, pos := "ref.go:49", after := #[], guard := none }) (v := ?_) rfl (by kernel_rfl) (by kernel_rfl) (by kernel_rfl) (fun _ _ _ h => h) (Or.inl ⟨by rfl, ?_⟩) (by assumption) ?_
                rotate_left
                focus ((intro w hSw; (try dsimp only at hSw); go_simp) <;> (try with_reducible rfl))
                try simp only [Act.put, List.setIfInBounds_toArray, List.set_cons_zero, List.set_cons_succ]
                refine wpAnyH_take (i := 1) (oi := { dst := some 24, op := Op.unOp UnOp.not 4 (Operand.tmp 23), type := 4, pos := "ref.go:49", after := #[{ on := 0, ground := Ground.data }], guard := none }) (v := ?_) rfl (by kernel_rfl) (by kernel_rfl) (by kernel_rfl) (fun _ _ _ h => h) (Or.inl ⟨by rfl, ?_⟩) (by assumption) ?_
                rotate_left
                focus ((intro w hSw; (try dsimp only at hSw); go_simp) <;> (try with_reducible rfl))
                try simp only [Act.put, List.setIfInBounds_toArray, List.set_cons_zero, List.set_cons_succ]
                refine wpAnyH_take (i := 2) (oi := { dst := some 25, op := Op.move (Operand.tmp 24), type := 4, pos := "ref.go:49", after := #[{ on := 1, ground := Ground.data }], guard := none }) (v := ?_) rfl (by kernel_rfl) (by kernel_rfl) (by kernel_rfl) (fun _ _ _ h => h) (Or.inl ⟨by rfl, ?_⟩) (by assumption) ?_
                rotate_left
                focus ((intro w hSw; (try dsimp only at hSw); go_simp) <;> (try with_reducible rfl))
                try simp only [Act.put, List.setIfInBounds_toArray, List.set_cons_zero, List.set_cons_succ]
                refine wpAnyH_take (i := 3) (oi := { dst := some 26, op := Op.move (Operand.tmp 0), type := 26, pos := "ref.go:49", after := #[{ on := 2, ground := Ground.guard }], guard := some (2, true) }) (v := ?_) rfl (by kernel_rfl) (by kernel_rfl) (by kernel_rfl) (fun _ _ _ h => h) (Or.inl ⟨by rfl, ?_⟩) (by assumption) ?_
                rotate_left
                focus ((intro w hSw; (try dsimp only at hSw); go_simp) <;> (try with_reducible rfl))
                try simp only [Act.put, List.setIfInBounds_toArray, List.set_cons_zero, List.set_cons_succ]
                refine wpAnyH_take (i := 4) (oi := { dst := some 27, op := Op.move (Operand.tmp 8), type := 3, pos := "ref.go:49", after := #[{ on := 2, ground := Ground.guard }], guard := some (2, true) }) (v := ?_) rfl (by kernel_rfl) (by kernel_rfl) (by kernel_rfl) (fun _ _ _ h => h) (Or.inl ⟨by rfl, ?_⟩) (by assumption) ?_
                rotate_left
                focus ((intro w hSw; (try dsimp only at hSw); go_simp) <;> (try with_reducible rfl))
                try simp only [Act.put, List.setIfInBounds_toArray, List.set_cons_zero, List.set_cons_succ]
                refine wpAnyH_take (i := 5) (oi := { dst := some 28, op := Op.indexAddr 26 (Operand.tmp 26) (Operand.tmp 27), type := 0, pos := "ref.go:49", after := #[{ on := 3, ground := Ground.data }, { on := 4, ground := Ground.data }, { on := 2, ground := Ground.guard }], guard := some (2, true) }) (v := ?_) rfl (by kernel_rfl) (by kernel_rfl) (by kernel_rfl) (fun _ _ _ h => h) (Or.inl ⟨by rfl, ?_⟩) (by assumption) ?_
                rotate_left
                focus ((intro w hSw; (try dsimp only at hSw); go_simp) <;> (try with_reducible rfl))
                try simp only [Act.put, List.setIfInBounds_toArray, List.set_cons_zero, List.set_cons_succ]
                refine wpAnyH_take (i := 6) (oi := { dst := some 29, op := Op.load 30 (Operand.tmp 28), type := 30, pos := "ref.go:49", after := #[{ on := 5, ground := Ground.data }, { on := 2, ground := Ground.guard }], guard := some (2, true) }) (v := ?_) rfl (by kernel_rfl) (by kernel_rfl) (by kernel_rfl) (fun _ _ _ h => h) (Or.inl ⟨by rfl, ?_⟩) (by assumption) ?_
                rotate_left
                focus ((intro w hSw; (try dsimp only at hSw); go_simp) <;> (try with_reducible rfl))
                try simp only [Act.put, List.setIfInBounds_toArray, List.set_cons_zero, List.set_cons_succ]
                refine wpAnyH_take (i := 7) (oi := { dst := some 30, op := Op.load 30 (Operand.tmp 3), type := 30, pos := "ref.go:49", after := #[{ on := 2, ground := Ground.guard }], guard := some (2, true) }) (v := ?_) rfl (by kernel_rfl) (by kernel_rfl) (by kernel_rfl) (fun _ _ _ h => h) (Or.inl ⟨by rfl, ?_⟩) (by assumption) ?_
                rotate_left
                focus ((intro w hSw; (try dsimp only at hSw); go_simp) <;> (try with_reducible rfl))
                try simp only [Act.put, List.setIfInBounds_toArray, List.set_cons_zero, List.set_cons_succ]
                refine wpAnyH_ready (rs := [8]) (by kernel_rfl) (by simp) ?_
                refine AllReadyH.cons (o := { dst := some 31, op := Op.call { callee := Callee.value (Operand.func 37), args := #[Operand.tmp 29, Operand.tmp 30], argTypes := #[30, 30] }, type := 4, pos := "ref.go:49", after := #[{ on := 6, ground := Ground.data }, { on := 7, ground := Ground.data }, { on := 2, ground := Ground.chain }, { on := 2, ground := Ground.guard }], guard := some (2, true) }) rfl (fun K hK => ?_) AllReadyH.nil
                go_simp
                (first | (go_at_call 37; refine (HLA.out _).mono ?_; rintro e w5 ⟨rfl, hb⟩; have jj0 := (hb.cell (p := ⟨w.heap.size, 0, none⟩) hA).trans dd0; have jj1 := (hb.cell (p := ⟨w.heap.size, 1, none⟩) hA).trans dd1; have jj2 := (hb.cell (p := ⟨w.heap.size, 2, none⟩) hA).trans dd2; have jj3 := (hb.cell (p := ⟨w.heap.size, 3, none⟩) hA).trans dd3; have jj4 := (hb.cell (p := ⟨w.heap.size, 4, none⟩) hA).trans dd4; have ii0 := (hb.cell (p := ⟨g, k * 5, none⟩) hg2).trans k0; have ii1 := (hb.cell (p := ⟨g, k * 5 + 1, none⟩) hg2).trans k1; have ii2 := (hb.cell (p := ⟨g, k * 5 + 2, none⟩) hg2).trans k2; have ii3 := (hb.cell (p := ⟨g, k * 5 + 3, none⟩) hg2).trans k3; have ii4 := (hb.cell (p := ⟨g, k * 5 + 4, none⟩) hg2).trans k4; replace HB := Lib.hid (HBd.out.trans (hb.mono HBd.out.size)); replace HPB := Lib.hid (HPd.out.below hb); replace HO := Lib.hid (ownsRow_below HOd.out hb)))
                go_wp2_with fail
                refine hK.out _ _ (by (try dsimp only); go_keep) (fun hHeld => ?_)
                clear hK K
                try simp only [Act.put, List.setIfInBounds_toArray, List.set_cons_zero, List.set_cons_succ]
                refine wpAnyH_take (i := 9) (oi := { dst := some 32, op := Op.unOp UnOp.not 4 (Operand.tmp 31), type := 4, pos := "ref.go:49", after := #[{ on := 8, ground := Ground.data }, { on := 2, ground := Ground.guard }], guard := some (2, true) }) (v := ?_) rfl (by kernel_rfl) (by kernel_rfl) (by kernel_rfl) (fun _ _ _ h => h) (Or.inl ⟨by rfl, ?_⟩) (by assumption) ?_
                rotate_left
                focus ((intro w hSw; (try dsimp only at hSw); go_simp) <;> (try with_reducible rfl))
                try simp only [Act.put, List.setIfInBounds_toArray, List.set_cons_zero, List.set_cons_succ]
                refine wpAnyH_take (i := 10) (oi := { dst := some 33, op := Op.pick (Operand.tmp 25) (Operand.tmp 32) (Operand.const (Value.bool false)), type := 4, pos := "ref.go:49", after := #[{ on := 2, ground := Ground.data }, { on := 9, ground := Ground.data }], guard := none }) (v := ?_) rfl (by kernel_rfl) (by kernel_rfl) (by kernel_rfl) (fun _ _ _ h => h) (Or.inl ⟨by rfl, ?_⟩) (by assumption) ?_
                rotate_left
                focus ((intro w hSw; (try dsimp only at hSw); go_simp) <;> (try with_reducible rfl))
                try simp only [Act.put, List.setIfInBounds_toArray, List.set_cons_zero, List.set_cons_succ]
                refine wpAnyH_done (by kernel_rfl) ?_ _
                clear hb HBd HPd HOd jj0 jj1 jj2 jj3 jj4 ii0 ii1 ii2 ii3 ii4
                clear dd0 dd1 dd2 dd3 dd4 k0 k1 k2 k3 k4 hA hg2
                have dd0 := HPB.out.c0; have dd1 := HPB.out.c1; have dd2 := HPB.out.c2; have dd3 := HPB.out.c3; have dd4 := HPB.out.c4
                simp only at dd0 dd1 dd2 dd3 dd4
                obtain ⟨k0, k1, k2, k3, k4⟩ := HXC.out _ HB.out
                simp only at k0 k1 k2 k3 k4
                have hA := HPB.out.hi
                have hg2 := Nat.lt_of_lt_of_le hg HB.out.size
                go_wp2_with (at_builtin; refine wpList_append_own _ rfl _ _ 26 rfl (w.heap.size + 1) 30 i0 _ 5 32 Try.underlying26 hi hz0 hz1 hz2 rfl (by decide) _ _ _ rfl (HO.out.alloc _) ⟨w5.heap.size, 0, none⟩ 1 1 [.int .i64 s, .int .i64 c, .int .i64 f, .bool p, .bool q] rfl rfl ?d1 ?d2 ?d3 ?d4 ?d5 ?_)
                case d1 =>
                  intro j u hj
                  rw [Addr.add_lit]
                  exact cells_at (Blk.new w5 s c f p q) j u hj
                case d2 =>
                  intro u hu
                  simp at hu
                  rcases hu with rfl | rfl | rfl | rfl | rfl <;> rfl
                case d3 => unfold maxLen; (try simp only [List.length_append, List.length_singleton]); omega
                case d4 => (try simp only [List.length_append, List.length_singleton]); omega
                case d5 => have := HPB.out.hi; simp; omega
                intro vd wd hown' hgrow _
                have hbb : Below (w.heap.size + 1) w5 wd := ((Below.refl (w.heap.size + 1) w5).alloc HPB.out.hi (Obj.cells #[Value.int IntKind.i64 s, Value.int IntKind.i64 c, Value.int IntKind.i64 f, Value.bool p, Value.bool q] 30)).grown hgrow (by have := HPB.out.hi; simp; omega) (fun x hx => (HO.out.lt x hx).1)
                replace HB := Lib.hid (HB.out.trans (hbb.mono (Nat.le_succ _)))
                replace HPB := Lib.hid (HPB.out.belowB hbb (Nat.lt_succ_self _))
                replace HO : Hid (wd.ownsRow (w.heap.size + 1) 30 5 vd (L ++ [(Ar.mk s c f p q)]).length (flat (L ++ [(Ar.mk s c f p q)]))) := by
                  unfold Hid
                  rw [flat_append, flat_one]
                  simp only [List.length_append, List.length_singleton]
                  simpa [Ar.cells] using hown'
                clear hgrow hown' hbb
                clear dd0 dd1 dd2 dd3 dd4 k0 k1 k2 k3 k4 hA hg2
                have dd0 := HPB.out.c0; have dd1 := HPB.out.c1; have dd2 := HPB.out.c2; have dd3 := HPB.out.c3; have dd4 := HPB.out.c4
                simp only at dd0 dd1 dd2 dd3 dd4
                obtain ⟨k0, k1, k2, k3, k4⟩ := HXC.out _ HB.out
                simp only at k0 k1 k2 k3 k4
                have hA := HPB.out.hi
                have hg2 := Nat.lt_of_lt_of_le hg HB.out.size
                go_wp2_with fail
                have HBd := Lib.hid HB.out.drew
                have HPd := Lib.hid (HPB.out.below (Below.refl _ _).drew)
                have HOd := Lib.hid (ownsRow_below HO.out (Below.refl _ _).drew)
                refine wp_region_held_drew (S := fun w' => w'.cell? ⟨w.heap.size, 0, none⟩ = some (.int .i64 s) ∧ w'.cell? ⟨w.heap.size, 1, none⟩ = some (.int .i64 c) ∧ w'.cell? ⟨w.heap.size, 2, none⟩ = some (.int .i64 f) ∧ w'.cell? ⟨w.heap.size, 3, none⟩ = some (.bool p) ∧ w'.cell? ⟨w.heap.size, 4, none⟩ = some (.bool q) ∧ w'.cell? ⟨g, k * 5, none⟩ = some (.int .i64 es) ∧ w'.cell? ⟨g, k * 5 + 1, none⟩ = some (.int .i64 ec) ∧ w'.cell? ⟨g, k * 5 + 2, none⟩ = some (.int .i64 ef) ∧ w'.cell? ⟨g, k * 5 + 3, none⟩ = some (.bool ep) ∧ w'.cell? ⟨g, k * 5 + 4, none⟩ = some (.bool eb)) (by kernel_rfl) (by (try dsimp only); go_keep) (fun hHeld => ?_)
                refine wpAnyH_take (i := 0) (oi := { dst := some 38, op := Op.move (Operand.tmp 0), type := 26, pos := "ref.go:53", after := #[], guard := none }) (v := ?_) rfl (by kernel_rfl) (by kernel_rfl) (by kernel_rfl) (fun _ _ _ h => h) (Or.inl ⟨by rfl, ?_⟩) (by assumption) ?_
                rotate_left
                focus ((intro w hSw; (try dsimp only at hSw); go_simp) <;> (try with_reducible rfl))
                try simp only [Act.put, List.setIfInBounds_toArray, List.set_cons_zero, List.set_cons_succ]
                refine wpAnyH_take (i := 1) (oi := { dst := some 39, op := Op.move (Operand.tmp 8), type := 3, pos := "ref.go:53", after := #[], guard := none }) (v := ?_) rfl (by kernel_rfl) (by kernel_rfl) (by kernel_rfl) (fun _ _ _ h => h) (Or.inl ⟨by rfl, ?_⟩) (by assumption) ?_
                rotate_left
                focus ((intro w hSw; (try dsimp only at hSw); go_simp) <;> (try with_reducible rfl))
                try simp only [Act.put, List.setIfInBounds_toArray, List.set_cons_zero, List.set_cons_succ]
                refine wpAnyH_take (i := 2) (oi := { dst := some 40, op := Op.indexAddr 26 (Operand.tmp 38) (Operand.tmp 39), type := 0, pos := "ref.go:53", after := #[{ on := 0, ground := Ground.data }, { on := 1, ground := Ground.data }], guard := none }) (v := ?_) rfl (by kernel_rfl) (by kernel_rfl) (by kernel_rfl) (fun _ _ _ h => h) (Or.inl ⟨by rfl, ?_⟩) (by assumption) ?_
                rotate_left
                focus ((intro w hSw; (try dsimp only at hSw); go_simp) <;> (try with_reducible rfl))
                try simp only [Act.put, List.setIfInBounds_toArray, List.set_cons_zero, List.set_cons_succ]
                refine wpAnyH_take (i := 3) (oi := { dst := some 41, op := Op.load 30 (Operand.tmp 40), type := 30, pos := "ref.go:53", after := #[{ on := 2, ground := Ground.data }], guard := none }) (v := ?_) rfl (by kernel_rfl) (by kernel_rfl) (by kernel_rfl) (fun _ _ _ h => h) (Or.inl ⟨by rfl, ?_⟩) (by assumption) ?_
                rotate_left
                focus ((intro w hSw; (try dsimp only at hSw); go_simp) <;> (try with_reducible rfl))
                try simp only [Act.put, List.setIfInBounds_toArray, List.set_cons_zero, List.set_cons_succ]
                refine wpAnyH_take (i := 4) (oi := { dst := some 42, op := Op.load 30 (Operand.tmp 3), type := 30, pos := "ref.go:53", after := #[], guard := none }) (v := ?_) rfl (by kernel_rfl) (by kernel_rfl) (by kernel_rfl) (fun _ _ _ h => h) (Or.inl ⟨by rfl, ?_⟩) (by assumption) ?_
                rotate_left
                focus ((intro w hSw; (try dsimp only at hSw); go_simp) <;> (try with_reducible rfl))
                try simp only [Act.put, List.setIfInBounds_toArray, List.set_cons_zero, List.set_cons_succ]
                refine wpAnyH_ready (rs := [5]) (by kernel_rfl) (by simp) ?_
                refine AllReadyH.cons (o := { dst := some 43, op := Op.call { callee := Callee.value (Operand.func 37), args := #[Operand.tmp 41, Operand.tmp 42], argTypes := #[30, 30] }, type := 4, pos := "ref.go:53", after := #[{ on := 3, ground := Ground.data }, { on := 4, ground := Ground.data }], guard := none }) rfl (fun K hK => ?_) AllReadyH.nil
                go_simp
                (first | (go_at_call 37; refine (HLA.out _).mono ?_; rintro e w6 ⟨rfl, hb⟩; have jj0 := (hb.cell (p := ⟨w.heap.size, 0, none⟩) hA).trans dd0; have jj1 := (hb.cell (p := ⟨w.heap.size, 1, none⟩) hA).trans dd1; have jj2 := (hb.cell (p := ⟨w.heap.size, 2, none⟩) hA).trans dd2; have jj3 := (hb.cell (p := ⟨w.heap.size, 3, none⟩) hA).trans dd3; have jj4 := (hb.cell (p := ⟨w.heap.size, 4, none⟩) hA).trans dd4; have ii0 := (hb.cell (p := ⟨g, k * 5, none⟩) hg2).trans k0; have ii1 := (hb.cell (p := ⟨g, k * 5 + 1, none⟩) hg2).trans k1; have ii2 := (hb.cell (p := ⟨g, k * 5 + 2, none⟩) hg2).trans k2; have ii3 := (hb.cell (p := ⟨g, k * 5 + 3, none⟩) hg2).trans k3; have ii4 := (hb.cell (p := ⟨g, k * 5 + 4, none⟩) hg2).trans k4; replace HB := Lib.hid (HBd.out.trans (hb.mono HBd.out.size)); replace HPB := Lib.hid (HPd.out.below hb); replace HO := Lib.hid (ownsRow_below HOd.out hb)))
                go_wp2_with fail
                refine hK.out _ _ (by (try dsimp only); go_keep) (fun hHeld => ?_)
                clear hK K
                try simp only [Act.put, List.setIfInBounds_toArray, List.set_cons_zero, List.set_cons_succ]
                refine wpAnyH_take (i := 6) (oi := { dst := some 44, op := Op.move (Operand.tmp 43), type := 4, pos := "ref.go:53", after := #[{ on := 5, ground := Ground.data }, { on := 5, ground := Ground.chain }], guard := none }) (v := ?_) rfl (by kernel_rfl) (by kernel_rfl) (by kernel_rfl) (fun _ _ _ h => h) (Or.inl ⟨by rfl, ?_⟩) (by assumption) ?_
                rotate_left
                focus ((intro w hSw; (try dsimp only at hSw); go_simp) <;> (try with_reducible rfl))
                try simp only [Act.put, List.setIfInBounds_toArray, List.set_cons_zero, List.set_cons_succ]
                refine wpAnyH_take (i := 7) (oi := { dst := some 45, op := Op.load 30 (Operand.tmp 3), type := 30, pos := "ref.go:53", after := #[{ on := 6, ground := Ground.guard }], guard := some (6, false) }) (v := ?_) rfl (by kernel_rfl) (by kernel_rfl) (by kernel_rfl) (fun _ _ _ h => h) (Or.inl ⟨by rfl, ?_⟩) (by assumption) ?_
                rotate_left
                focus ((intro w hSw; (try dsimp only at hSw); go_simp) <;> (try with_reducible rfl))
                try simp only [Act.put, List.setIfInBounds_toArray, List.set_cons_zero, List.set_cons_succ]
                refine wpAnyH_take (i := 8) (oi := { dst := some 46, op := Op.move (Operand.tmp 0), type := 26, pos := "ref.go:53", after := #[{ on := 6, ground := Ground.guard }], guard := some (6, false) }) (v := ?_) rfl (by kernel_rfl) (by kernel_rfl) (by kernel_rfl) (fun _ _ _ h => h) (Or.inl ⟨by rfl, ?_⟩) (by assumption) ?_
                rotate_left
                focus ((intro w hSw; (try dsimp only at hSw); go_simp) <;> (try with_reducible rfl))
                try simp only [Act.put, List.setIfInBounds_toArray, List.set_cons_zero, List.set_cons_succ]
                refine wpAnyH_take (i := 9) (oi := { dst := some 47, op := Op.move (Operand.tmp 8), type := 3, pos := "ref.go:53", after := #[{ on := 6, ground := Ground.guard }], guard := some (6, false) }) (v := ?_) rfl (by kernel_rfl) (by kernel_rfl) (by kernel_rfl) (fun _ _ _ h => h) (Or.inl ⟨by rfl, ?_⟩) (by assumption) ?_
                rotate_left
                focus ((intro w hSw; (try dsimp only at hSw); go_simp) <;> (try with_reducible rfl))
                try simp only [Act.put, List.setIfInBounds_toArray, List.set_cons_zero, List.set_cons_succ]
                refine wpAnyH_take (i := 10) (oi := { dst := some 48, op := Op.indexAddr 26 (Operand.tmp 46) (Operand.tmp 47), type := 0, pos := "ref.go:53", after := #[{ on := 8, ground := Ground.data }, { on := 9, ground := Ground.data }, { on := 6, ground := Ground.guard }], guard := some (6, false) }) (v := ?_) rfl (by kernel_rfl) (by kernel_rfl) (by kernel_rfl) (fun _ _ _ h => h) (Or.inl ⟨by rfl, ?_⟩) (by assumption) ?_
                rotate_left
                focus ((intro w hSw; (try dsimp only at hSw); go_simp) <;> (try with_reducible rfl))
                try simp only [Act.put, List.setIfInBounds_toArray, List.set_cons_zero, List.set_cons_succ]
                refine wpAnyH_take (i := 11) (oi := { dst := some 49, op := Op.load 30 (Operand.tmp 48), type := 30, pos := "ref.go:53", after := #[{ on := 10, ground := Ground.data }, { on := 6, ground := Ground.guard }], guard := some (6, false) }) (v := ?_) rfl (by kernel_rfl) (by kernel_rfl) (by kernel_rfl) (fun _ _ _ h => h) (Or.inl ⟨by rfl, ?_⟩) (by assumption) ?_
                rotate_left
                focus ((intro w hSw; (try dsimp only at hSw); go_simp) <;> (try with_reducible rfl))
                try simp only [Act.put, List.setIfInBounds_toArray, List.set_cons_zero, List.set_cons_succ]
                refine wpAnyH_ready (rs := [12]) (by kernel_rfl) (by simp) ?_
                refine AllReadyH.cons (o := { dst := some 50, op := Op.call { callee := Callee.value (Operand.func 37), args := #[Operand.tmp 45, Operand.tmp 49], argTypes := #[30, 30] }, type := 4, pos := "ref.go:53", after := #[{ on := 7, ground := Ground.data }, { on := 11, ground := Ground.data }, { on := 6, ground := Ground.chain }, { on := 6, ground := Ground.guard }], guard := some (6, false) }) rfl (fun K hK => ?_) AllReadyH.nil
                go_simp
                (first | (go_at_call 37; refine (HLB.out _).mono ?_; rintro e w7 ⟨rfl, hb2⟩; have mm0 := (hb2.cell (p := ⟨w.heap.size, 0, none⟩) (Nat.lt_of_lt_of_le hA hb.size)).trans jj0; have mm1 := (hb2.cell (p := ⟨w.heap.size, 1, none⟩) (Nat.lt_of_lt_of_le hA hb.size)).trans jj1; have mm2 := (hb2.cell (p := ⟨w.heap.size, 2, none⟩) (Nat.lt_of_lt_of_le hA hb.size)).trans jj2; have mm3 := (hb2.cell (p := ⟨w.heap.size, 3, none⟩) (Nat.lt_of_lt_of_le hA hb.size)).trans jj3; have mm4 := (hb2.cell (p := ⟨w.heap.size, 4, none⟩) (Nat.lt_of_lt_of_le hA hb.size)).trans jj4; have nn0 := (hb2.cell (p := ⟨g, k * 5, none⟩) (Nat.lt_of_lt_of_le hg2 hb.size)).trans ii0; have nn1 := (hb2.cell (p := ⟨g, k * 5 + 1, none⟩) (Nat.lt_of_lt_of_le hg2 hb.size)).trans ii1; have nn2 := (hb2.cell (p := ⟨g, k * 5 + 2, none⟩) (Nat.lt_of_lt_of_le hg2 hb.size)).trans ii2; have nn3 := (hb2.cell (p := ⟨g, k * 5 + 3, none⟩) (Nat.lt_of_lt_of_le hg2 hb.size)).trans ii3; have nn4 := (hb2.cell (p := ⟨g, k * 5 + 4, none⟩) (Nat.lt_of_lt_of_le hg2 hb.size)).trans ii4; replace HB := Lib.hid (HB.out.trans (hb2.mono HB.out.size)); replace HPB := Lib.hid (HPB.out.below hb2); replace HO := Lib.hid (ownsRow_below HO.out hb2)))
                go_wp2_with fail
                refine hK.out _ _ (by (try dsimp only); go_keep) (fun hHeld => ?_)
                clear hK K
                try simp only [Act.put, List.setIfInBounds_toArray, List.set_cons_zero, List.set_cons_succ]
                refine wpAnyH_take (i := 13) (oi := { dst := some 51, op := Op.pick (Operand.tmp 44) (Operand.const (Value.bool true)) (Operand.tmp 50), type := 4, pos := "ref.go:53", after := #[{ on := 6, ground := Ground.data }, { on := 12, ground := Ground.data }], guard := none }) (v := ?_) rfl (by kernel_rfl) (by kernel_rfl) (by kernel_rfl) (fun _ _ _ h => h) (Or.inl ⟨by rfl, ?_⟩) (by assumption) ?_
                rotate_left
                focus ((intro w hSw; (try dsimp only at hSw); go_simp) <;> (try with_reducible rfl))
                try simp only [Act.put, List.setIfInBounds_toArray, List.set_cons_zero, List.set_cons_succ]
                refine wpAnyH_done (by kernel_rfl) ?_ _
                clear hb HBd HPd HOd jj0 jj1 jj2 jj3 jj4 ii0 ii1 ii2 ii3 ii4 hb2 mm0 mm1 mm2 mm3 mm4 nn0 nn1 nn2 nn3 nn4
                clear dd0 dd1 dd2 dd3 dd4 k0 k1 k2 k3 k4 hA hg2
                have dd0 := HPB.out.c0; have dd1 := HPB.out.c1; have dd2 := HPB.out.c2; have dd3 := HPB.out.c3; have dd4 := HPB.out.c4
                simp only at dd0 dd1 dd2 dd3 dd4
                obtain ⟨k0, k1, k2, k3, k4⟩ := HXC.out _ HB.out
                simp only at k0 k1 k2 k3 k4
                have hA := HPB.out.hi
                have hg2 := Nat.lt_of_lt_of_le hg HB.out.size
                go_wp2_with (at_builtin; refine wpList_append_own _ rfl _ _ 26 rfl (w.heap.size + 1) 30 i0 _ 5 32 Try.underlying26 hi hz0 hz1 hz2 rfl (by decide) _ _ _ rfl (HO.out.alloc _) ⟨w7.heap.size, 0, none⟩ 1 1 [.int .i64 es, .int .i64 ec, .int .i64 ef, .bool ep, .bool eb] rfl rfl ?c1 ?c2 ?c3 ?c4 ?c5 ?_)
                case c1 =>
                  intro j u hj
                  rw [Addr.add_lit]
                  exact cells_at (Blk.new w7 es ec ef ep eb) j u hj
                case c2 =>
                  intro u hu
                  simp at hu
                  rcases hu with rfl | rfl | rfl | rfl | rfl <;> rfl
                case c3 => unfold maxLen; (try simp only [List.length_append, List.length_singleton]); omega
                case c4 => (try simp only [List.length_append, List.length_singleton]); omega
                case c5 => have := HPB.out.hi; simp; omega
                intro vc wc hown' hgrow _
                have hbb : Below (w.heap.size + 1) w7 wc := ((Below.refl (w.heap.size + 1) w7).alloc HPB.out.hi (Obj.cells #[Value.int IntKind.i64 es, Value.int IntKind.i64 ec, Value.int IntKind.i64 ef, Value.bool ep, Value.bool eb] 30)).grown hgrow (by have := HPB.out.hi; simp; omega) (fun x hx => (HO.out.lt x hx).1)
                replace HB := Lib.hid (HB.out.trans (hbb.mono (Nat.le_succ _)))
                replace HPB := Lib.hid (HPB.out.belowB hbb (Nat.lt_succ_self _))
                replace HO : Hid (wc.ownsRow (w.heap.size + 1) 30 5 vc ((L ++ [(Ar.mk s c f p q)]) ++ [(Ar.mk es ec ef ep eb)]).length (flat ((L ++ [(Ar.mk s c f p q)]) ++ [(Ar.mk es ec ef ep eb)]))) := by
                  unfold Hid
                  rw [flat_append, flat_one]
                  simp only [List.length_append, List.length_singleton]
                  simpa [Ar.cells] using hown'
                clear hgrow hown' hbb
                go_wp2_with fail
                go_roundw
                case rel => exact ⟨k + 1, by omega, by go_num, by rw [HS.out], HB, HPB, by rw [HS.out]; exact HO⟩
                case measure => simp [intOf]; omega
              | false =>
                have HS := Lib.hid HSU.out
                clear HSU
                simp only [Bool.not_false, Bool.not_true, Bool.and_true, Bool.true_and, Bool.and_false, Bool.false_and, Bool.or_true, Bool.true_or, Bool.or_false, Bool.false_or, Bool.false_eq_true, if_true, if_false, List.append_nil] at HS
                go_wp2_with fail
                have HBd := Lib.hid HB.out.drew
                have HPd := Lib.hid (HPB.out.below (Below.refl _ _).drew)
                have HOd := Lib.hid (ownsRow_below HO.out (Below.refl _ _).drew)
                refine wp_region_held_drew (S := fun w' => w'.cell? ⟨w.heap.size, 0, none⟩ = some (.int .i64 s) ∧ w'.cell? ⟨w.heap.size, 1, none⟩ = some (.int .i64 c) ∧ w'.cell? ⟨w.heap.size, 2, none⟩ = some (.int .i64 f) ∧ w'.cell? ⟨w.heap.size, 3, none⟩ = some (.bool p) ∧ w'.cell? ⟨w.heap.size, 4, none⟩ = some (.bool q) ∧ w'.cell? ⟨g, k * 5, none⟩ = some (.int .i64 es) ∧ w'.cell? ⟨g, k * 5 + 1, none⟩ = some (.int .i64 ec) ∧ w'.cell? ⟨g, k * 5 + 2, none⟩ = some (.int .i64 ef) ∧ w'.cell? ⟨g, k * 5 + 3, none⟩ = some (.bool ep) ∧ w'.cell? ⟨g, k * 5 + 4, none⟩ = some (.bool eb)) (by kernel_rfl) (by (try dsimp only); go_keep) (fun hHeld => ?_)
                refine wpAnyH_take (i := 0) (oi := { dst := some 23, op := Op.move (Operand.tmp 7), type := 4, pos := "ref.go:49", after := #[], guard := none }) (v := ?_) rfl (by kernel_rfl) (by kernel_rfl) (by kernel_rfl) (fun _ _ _ h => h) (Or.inl ⟨by rfl, ?_⟩) (by assumption) ?_
                rotate_left
                focus ((intro w hSw; (try dsimp only at hSw); go_simp) <;> (try with_reducible rfl))
                try simp only [Act.put, List.setIfInBounds_toArray, List.set_cons_zero, List.set_cons_succ]
                refine wpAnyH_take (i := 1) (oi := { dst := some 24, op := Op.unOp UnOp.not 4 (Operand.tmp 23), type := 4, pos := "ref.go:49", after := #[{ on := 0, ground := Ground.data }], guard := none }) (v := ?_) rfl (by kernel_rfl) (by kernel_rfl) (by kernel_rfl) (fun _ _ _ h => h) (Or.inl ⟨by rfl, ?_⟩) (by assumption) ?_
                rotate_left
                focus ((intro w hSw; (try dsimp only at hSw); go_simp) <;> (try with_reducible rfl))
                try simp only [Act.put, List.setIfInBounds_toArray, List.set_cons_zero, List.set_cons_succ]
                refine wpAnyH_take (i := 2) (oi := { dst := some 25, op := Op.move (Operand.tmp 24), type := 4, pos := "ref.go:49", after := #[{ on := 1, ground := Ground.data }], guard := none }) (v := ?_) rfl (by kernel_rfl) (by kernel_rfl) (by kernel_rfl) (fun _ _ _ h => h) (Or.inl ⟨by rfl, ?_⟩) (by assumption) ?_
                rotate_left
                focus ((intro w hSw; (try dsimp only at hSw); go_simp) <;> (try with_reducible rfl))
                try simp only [Act.put, List.setIfInBounds_toArray, List.set_cons_zero, List.set_cons_succ]
                refine wpAnyH_take (i := 3) (oi := { dst := some 26, op := Op.move (Operand.tmp 0), type := 26, pos := "ref.go:49", after := #[{ on := 2, ground := Ground.guard }], guard := some (2, true) }) (v := ?_) rfl (by kernel_rfl) (by kernel_rfl) (by kernel_rfl) (fun _ _ _ h => h) (Or.inl ⟨by rfl, ?_⟩) (by assumption) ?_
                rotate_left
                focus ((intro w hSw; (try dsimp only at hSw); go_simp) <;> (try with_reducible rfl))
                try simp only [Act.put, List.setIfInBounds_toArray, List.set_cons_zero, List.set_cons_succ]
                refine wpAnyH_take (i := 4) (oi := { dst := some 27, op := Op.move (Operand.tmp 8), type := 3, pos := "ref.go:49", after := #[{ on := 2, ground := Ground.guard }], guard := some (2, true) }) (v := ?_) rfl (by kernel_rfl) (by kernel_rfl) (by kernel_rfl) (fun _ _ _ h => h) (Or.inl ⟨by rfl, ?_⟩) (by assumption) ?_
                rotate_left
                focus ((intro w hSw; (try dsimp only at hSw); go_simp) <;> (try with_reducible rfl))
                try simp only [Act.put, List.setIfInBounds_toArray, List.set_cons_zero, List.set_cons_succ]
                refine wpAnyH_take (i := 5) (oi := { dst := some 28, op := Op.indexAddr 26 (Operand.tmp 26) (Operand.tmp 27), type := 0, pos := "ref.go:49", after := #[{ on := 3, ground := Ground.data }, { on := 4, ground := Ground.data }, { on := 2, ground := Ground.guard }], guard := some (2, true) }) (v := ?_) rfl (by kernel_rfl) (by kernel_rfl) (by kernel_rfl) (fun _ _ _ h => h) (Or.inl ⟨by rfl, ?_⟩) (by assumption) ?_
                rotate_left
                focus ((intro w hSw; (try dsimp only at hSw); go_simp) <;> (try with_reducible rfl))
                try simp only [Act.put, List.setIfInBounds_toArray, List.set_cons_zero, List.set_cons_succ]
                refine wpAnyH_take (i := 6) (oi := { dst := some 29, op := Op.load 30 (Operand.tmp 28), type := 30, pos := "ref.go:49", after := #[{ on := 5, ground := Ground.data }, { on := 2, ground := Ground.guard }], guard := some (2, true) }) (v := ?_) rfl (by kernel_rfl) (by kernel_rfl) (by kernel_rfl) (fun _ _ _ h => h) (Or.inl ⟨by rfl, ?_⟩) (by assumption) ?_
                rotate_left
                focus ((intro w hSw; (try dsimp only at hSw); go_simp) <;> (try with_reducible rfl))
                try simp only [Act.put, List.setIfInBounds_toArray, List.set_cons_zero, List.set_cons_succ]
                refine wpAnyH_take (i := 7) (oi := { dst := some 30, op := Op.load 30 (Operand.tmp 3), type := 30, pos := "ref.go:49", after := #[{ on := 2, ground := Ground.guard }], guard := some (2, true) }) (v := ?_) rfl (by kernel_rfl) (by kernel_rfl) (by kernel_rfl) (fun _ _ _ h => h) (Or.inl ⟨by rfl, ?_⟩) (by assumption) ?_
                rotate_left
                focus ((intro w hSw; (try dsimp only at hSw); go_simp) <;> (try with_reducible rfl))
                try simp only [Act.put, List.setIfInBounds_toArray, List.set_cons_zero, List.set_cons_succ]
                refine wpAnyH_ready (rs := [8]) (by kernel_rfl) (by simp) ?_
                refine AllReadyH.cons (o := { dst := some 31, op := Op.call { callee := Callee.value (Operand.func 37), args := #[Operand.tmp 29, Operand.tmp 30], argTypes := #[30, 30] }, type := 4, pos := "ref.go:49", after := #[{ on := 6, ground := Ground.data }, { on := 7, ground := Ground.data }, { on := 2, ground := Ground.chain }, { on := 2, ground := Ground.guard }], guard := some (2, true) }) rfl (fun K hK => ?_) AllReadyH.nil
                go_simp
                (first | (go_at_call 37; refine (HLA.out _).mono ?_; rintro e w5 ⟨rfl, hb⟩; have jj0 := (hb.cell (p := ⟨w.heap.size, 0, none⟩) hA).trans dd0; have jj1 := (hb.cell (p := ⟨w.heap.size, 1, none⟩) hA).trans dd1; have jj2 := (hb.cell (p := ⟨w.heap.size, 2, none⟩) hA).trans dd2; have jj3 := (hb.cell (p := ⟨w.heap.size, 3, none⟩) hA).trans dd3; have jj4 := (hb.cell (p := ⟨w.heap.size, 4, none⟩) hA).trans dd4; have ii0 := (hb.cell (p := ⟨g, k * 5, none⟩) hg2).trans k0; have ii1 := (hb.cell (p := ⟨g, k * 5 + 1, none⟩) hg2).trans k1; have ii2 := (hb.cell (p := ⟨g, k * 5 + 2, none⟩) hg2).trans k2; have ii3 := (hb.cell (p := ⟨g, k * 5 + 3, none⟩) hg2).trans k3; have ii4 := (hb.cell (p := ⟨g, k * 5 + 4, none⟩) hg2).trans k4; replace HB := Lib.hid (HBd.out.trans (hb.mono HBd.out.size)); replace HPB := Lib.hid (HPd.out.below hb); replace HO := Lib.hid (ownsRow_below HOd.out hb)))
                go_wp2_with fail
                refine hK.out _ _ (by (try dsimp only); go_keep) (fun hHeld => ?_)
                clear hK K
                try simp only [Act.put, List.setIfInBounds_toArray, List.set_cons_zero, List.set_cons_succ]
                refine wpAnyH_take (i := 9) (oi := { dst := some 32, op := Op.unOp UnOp.not 4 (Operand.tmp 31), type := 4, pos := "ref.go:49", after := #[{ on := 8, ground := Ground.data }, { on := 2, ground := Ground.guard }], guard := some (2, true) }) (v := ?_) rfl (by kernel_rfl) (by kernel_rfl) (by kernel_rfl) (fun _ _ _ h => h) (Or.inl ⟨by rfl, ?_⟩) (by assumption) ?_
                rotate_left
                focus ((intro w hSw; (try dsimp only at hSw); go_simp) <;> (try with_reducible rfl))
                try simp only [Act.put, List.setIfInBounds_toArray, List.set_cons_zero, List.set_cons_succ]
                refine wpAnyH_take (i := 10) (oi := { dst := some 33, op := Op.pick (Operand.tmp 25) (Operand.tmp 32) (Operand.const (Value.bool false)), type := 4, pos := "ref.go:49", after := #[{ on := 2, ground := Ground.data }, { on := 9, ground := Ground.data }], guard := none }) (v := ?_) rfl (by kernel_rfl) (by kernel_rfl) (by kernel_rfl) (fun _ _ _ h => h) (Or.inl ⟨by rfl, ?_⟩) (by assumption) ?_
                rotate_left
                focus ((intro w hSw; (try dsimp only at hSw); go_simp) <;> (try with_reducible rfl))
                try simp only [Act.put, List.setIfInBounds_toArray, List.set_cons_zero, List.set_cons_succ]
                refine wpAnyH_done (by kernel_rfl) ?_ _
                clear hb HBd HPd HOd jj0 jj1 jj2 jj3 jj4 ii0 ii1 ii2 ii3 ii4
                clear dd0 dd1 dd2 dd3 dd4 k0 k1 k2 k3 k4 hA hg2
                have dd0 := HPB.out.c0; have dd1 := HPB.out.c1; have dd2 := HPB.out.c2; have dd3 := HPB.out.c3; have dd4 := HPB.out.c4
                simp only at dd0 dd1 dd2 dd3 dd4
                obtain ⟨k0, k1, k2, k3, k4⟩ := HXC.out _ HB.out
                simp only at k0 k1 k2 k3 k4
                have hA := HPB.out.hi
                have hg2 := Nat.lt_of_lt_of_le hg HB.out.size
                go_wp2_with (at_builtin; refine wpList_append_own _ rfl _ _ 26 rfl (w.heap.size + 1) 30 i0 _ 5 32 Try.underlying26 hi hz0 hz1 hz2 rfl (by decide) _ _ _ rfl (HO.out.alloc _) ⟨w5.heap.size, 0, none⟩ 1 1 [.int .i64 s, .int .i64 c, .int .i64 f, .bool p, .bool q] rfl rfl ?d1 ?d2 ?d3 ?d4 ?d5 ?_)
                case d1 =>
                  intro j u hj
                  rw [Addr.add_lit]
                  exact cells_at (Blk.new w5 s c f p q) j u hj
                case d2 =>
                  intro u hu
                  simp at hu
                  rcases hu with rfl | rfl | rfl | rfl | rfl <;> rfl
                case d3 => unfold maxLen; (try simp only [List.length_append, List.length_singleton]); omega
                case d4 => (try simp only [List.length_append, List.length_singleton]); omega
                case d5 => have := HPB.out.hi; simp; omega
                intro vd wd hown' hgrow _
                have hbb : Below (w.heap.size + 1) w5 wd := ((Below.refl (w.heap.size + 1) w5).alloc HPB.out.hi (Obj.cells #[Value.int IntKind.i64 s, Value.int IntKind.i64 c, Value.int IntKind.i64 f, Value.bool p, Value.bool q] 30)).grown hgrow (by have := HPB.out.hi; simp; omega) (fun x hx => (HO.out.lt x hx).1)
                replace HB := Lib.hid (HB.out.trans (hbb.mono (Nat.le_succ _)))
                replace HPB := Lib.hid (HPB.out.belowB hbb (Nat.lt_succ_self _))
                replace HO : Hid (wd.ownsRow (w.heap.size + 1) 30 5 vd (L ++ [(Ar.mk s c f p q)]).length (flat (L ++ [(Ar.mk s c f p q)]))) := by
                  unfold Hid
                  rw [flat_append, flat_one]
                  simp only [List.length_append, List.length_singleton]
                  simpa [Ar.cells] using hown'
                clear hgrow hown' hbb
                clear dd0 dd1 dd2 dd3 dd4 k0 k1 k2 k3 k4 hA hg2
                have dd0 := HPB.out.c0; have dd1 := HPB.out.c1; have dd2 := HPB.out.c2; have dd3 := HPB.out.c3; have dd4 := HPB.out.c4
                simp only at dd0 dd1 dd2 dd3 dd4
                obtain ⟨k0, k1, k2, k3, k4⟩ := HXC.out _ HB.out
                simp only at k0 k1 k2 k3 k4
                have hA := HPB.out.hi
                have hg2 := Nat.lt_of_lt_of_le hg HB.out.size
                go_wp2_with fail
                have HBd := Lib.hid HB.out.drew
                have HPd := Lib.hid (HPB.out.below (Below.refl _ _).drew)
                have HOd := Lib.hid (ownsRow_below HO.out (Below.refl _ _).drew)
                refine wp_region_held_drew (S := fun w' => w'.cell? ⟨w.heap.size, 0, none⟩ = some (.int .i64 s) ∧ w'.cell? ⟨w.heap.size, 1, none⟩ = some (.int .i64 c) ∧ w'.cell? ⟨w.heap.size, 2, none⟩ = some (.int .i64 f) ∧ w'.cell? ⟨w.heap.size, 3, none⟩ = some (.bool p) ∧ w'.cell? ⟨w.heap.size, 4, none⟩ = some (.bool q) ∧ w'.cell? ⟨g, k * 5, none⟩ = some (.int .i64 es) ∧ w'.cell? ⟨g, k * 5 + 1, none⟩ = some (.int .i64 ec) ∧ w'.cell? ⟨g, k * 5 + 2, none⟩ = some (.int .i64 ef) ∧ w'.cell? ⟨g, k * 5 + 3, none⟩ = some (.bool ep) ∧ w'.cell? ⟨g, k * 5 + 4, none⟩ = some (.bool eb)) (by kernel_rfl) (by (try dsimp only); go_keep) (fun hHeld => ?_)
                refine wpAnyH_take (i := 0) (oi := { dst := some 38, op := Op.move (Operand.tmp 0), type := 26, pos := "ref.go:53", after := #[], guard := none }) (v := ?_) rfl (by kernel_rfl) (by kernel_rfl) (by kernel_rfl) (fun _ _ _ h => h) (Or.inl ⟨by rfl, ?_⟩) (by assumption) ?_
                rotate_left
                focus ((intro w hSw; (try dsimp only at hSw); go_simp) <;> (try with_reducible rfl))
                try simp only [Act.put, List.setIfInBounds_toArray, List.set_cons_zero, List.set_cons_succ]
                refine wpAnyH_take (i := 1) (oi := { dst := some 39, op := Op.move (Operand.tmp 8), type := 3, pos := "ref.go:53", after := #[], guard := none }) (v := ?_) rfl (by kernel_rfl) (by kernel_rfl) (by kernel_rfl) (fun _ _ _ h => h) (Or.inl ⟨by rfl, ?_⟩) (by assumption) ?_
                rotate_left
                focus ((intro w hSw; (try dsimp only at hSw); go_simp) <;> (try with_reducible rfl))
                try simp only [Act.put, List.setIfInBounds_toArray, List.set_cons_zero, List.set_cons_succ]
                refine wpAnyH_take (i := 2) (oi := { dst := some 40, op := Op.indexAddr 26 (Operand.tmp 38) (Operand.tmp 39), type := 0, pos := "ref.go:53", after := #[{ on := 0, ground := Ground.data }, { on := 1, ground := Ground.data }], guard := none }) (v := ?_) rfl (by kernel_rfl) (by kernel_rfl) (by kernel_rfl) (fun _ _ _ h => h) (Or.inl ⟨by rfl, ?_⟩) (by assumption) ?_
                rotate_left
                focus ((intro w hSw; (try dsimp only at hSw); go_simp) <;> (try with_reducible rfl))
                try simp only [Act.put, List.setIfInBounds_toArray, List.set_cons_zero, List.set_cons_succ]
                refine wpAnyH_take (i := 3) (oi := { dst := some 41, op := Op.load 30 (Operand.tmp 40), type := 30, pos := "ref.go:53", after := #[{ on := 2, ground := Ground.data }], guard := none }) (v := ?_) rfl (by kernel_rfl) (by kernel_rfl) (by kernel_rfl) (fun _ _ _ h => h) (Or.inl ⟨by rfl, ?_⟩) (by assumption) ?_
                rotate_left
                focus ((intro w hSw; (try dsimp only at hSw); go_simp) <;> (try with_reducible rfl))
                try simp only [Act.put, List.setIfInBounds_toArray, List.set_cons_zero, List.set_cons_succ]
                refine wpAnyH_take (i := 4) (oi := { dst := some 42, op := Op.load 30 (Operand.tmp 3), type := 30, pos := "ref.go:53", after := #[], guard := none }) (v := ?_) rfl (by kernel_rfl) (by kernel_rfl) (by kernel_rfl) (fun _ _ _ h => h) (Or.inl ⟨by rfl, ?_⟩) (by assumption) ?_
                rotate_left
                focus ((intro w hSw; (try dsimp only at hSw); go_simp) <;> (try with_reducible rfl))
                try simp only [Act.put, List.setIfInBounds_toArray, List.set_cons_zero, List.set_cons_succ]
                refine wpAnyH_ready (rs := [5]) (by kernel_rfl) (by simp) ?_
                refine AllReadyH.cons (o := { dst := some 43, op := Op.call { callee := Callee.value (Operand.func 37), args := #[Operand.tmp 41, Operand.tmp 42], argTypes := #[30, 30] }, type := 4, pos := "ref.go:53", after := #[{ on := 3, ground := Ground.data }, { on := 4, ground := Ground.data }], guard := none }) rfl (fun K hK => ?_) AllReadyH.nil
                go_simp
                (first | (go_at_call 37; refine (HLA.out _).mono ?_; rintro e w6 ⟨rfl, hb⟩; have jj0 := (hb.cell (p := ⟨w.heap.size, 0, none⟩) hA).trans dd0; have jj1 := (hb.cell (p := ⟨w.heap.size, 1, none⟩) hA).trans dd1; have jj2 := (hb.cell (p := ⟨w.heap.size, 2, none⟩) hA).trans dd2; have jj3 := (hb.cell (p := ⟨w.heap.size, 3, none⟩) hA).trans dd3; have jj4 := (hb.cell (p := ⟨w.heap.size, 4, none⟩) hA).trans dd4; have ii0 := (hb.cell (p := ⟨g, k * 5, none⟩) hg2).trans k0; have ii1 := (hb.cell (p := ⟨g, k * 5 + 1, none⟩) hg2).trans k1; have ii2 := (hb.cell (p := ⟨g, k * 5 + 2, none⟩) hg2).trans k2; have ii3 := (hb.cell (p := ⟨g, k * 5 + 3, none⟩) hg2).trans k3; have ii4 := (hb.cell (p := ⟨g, k * 5 + 4, none⟩) hg2).trans k4; replace HB := Lib.hid (HBd.out.trans (hb.mono HBd.out.size)); replace HPB := Lib.hid (HPd.out.below hb); replace HO := Lib.hid (ownsRow_below HOd.out hb)))
                go_wp2_with fail
                refine hK.out _ _ (by (try dsimp only); go_keep) (fun hHeld => ?_)
                clear hK K
                try simp only [Act.put, List.setIfInBounds_toArray, List.set_cons_zero, List.set_cons_succ]
                refine wpAnyH_take (i := 6) (oi := { dst := some 44, op := Op.move (Operand.tmp 43), type := 4, pos := "ref.go:53", after := #[{ on := 5, ground := Ground.data }, { on := 5, ground := Ground.chain }], guard := none }) (v := ?_) rfl (by kernel_rfl) (by kernel_rfl) (by kernel_rfl) (fun _ _ _ h => h) (Or.inl ⟨by rfl, ?_⟩) (by assumption) ?_
                rotate_left
                focus ((intro w hSw; (try dsimp only at hSw); go_simp) <;> (try with_reducible rfl))
                try simp only [Act.put, List.setIfInBounds_toArray, List.set_cons_zero, List.set_cons_succ]
                refine wpAnyH_take (i := 7) (oi := { dst := some 45, op := Op.load 30 (Operand.tmp 3), type := 30, pos := "ref.go:53", after := #[{ on := 6, ground := Ground.guard }], guard := some (6, false) }) (v := ?_) rfl (by kernel_rfl) (by kernel_rfl) (by kernel_rfl) (fun _ _ _ h => h) (Or.inl ⟨by rfl, ?_⟩) (by assumption) ?_
                rotate_left
                focus ((intro w hSw; (try dsimp only at hSw); go_simp) <;> (try with_reducible rfl))
                try simp only [Act.put, List.setIfInBounds_toArray, List.set_cons_zero, List.set_cons_succ]
                refine wpAnyH_take (i := 8) (oi := { dst := some 46, op := Op.move (Operand.tmp 0), type := 26, pos := "ref.go:53", after := #[{ on := 6, ground := Ground.guard }], guard := some (6, false) }) (v := ?_) rfl (by kernel_rfl) (by kernel_rfl) (by kernel_rfl) (fun _ _ _ h => h) (Or.inl ⟨by rfl, ?_⟩) (by assumption) ?_
                rotate_left
                focus ((intro w hSw; (try dsimp only at hSw); go_simp) <;> (try with_reducible rfl))
                try simp only [Act.put, List.setIfInBounds_toArray, List.set_cons_zero, List.set_cons_succ]
                refine wpAnyH_take (i := 9) (oi := { dst := some 47, op := Op.move (Operand.tmp 8), type := 3, pos := "ref.go:53", after := #[{ on := 6, ground := Ground.guard }], guard := some (6, false) }) (v := ?_) rfl (by kernel_rfl) (by kernel_rfl) (by kernel_rfl) (fun _ _ _ h => h) (Or.inl ⟨by rfl, ?_⟩) (by assumption) ?_
                rotate_left
                focus ((intro w hSw; (try dsimp only at hSw); go_simp) <;> (try with_reducible rfl))
                try simp only [Act.put, List.setIfInBounds_toArray, List.set_cons_zero, List.set_cons_succ]
                refine wpAnyH_take (i := 10) (oi := { dst := some 48, op := Op.indexAddr 26 (Operand.tmp 46) (Operand.tmp 47), type := 0, pos := "ref.go:53", after := #[{ on := 8, ground := Ground.data }, { on := 9, ground := Ground.data }, { on := 6, ground := Ground.guard }], guard := some (6, false) }) (v := ?_) rfl (by kernel_rfl) (by kernel_rfl) (by kernel_rfl) (fun _ _ _ h => h) (Or.inl ⟨by rfl, ?_⟩) (by assumption) ?_
                rotate_left
                focus ((intro w hSw; (try dsimp only at hSw); go_simp) <;> (try with_reducible rfl))
                try simp only [Act.put, List.setIfInBounds_toArray, List.set_cons_zero, List.set_cons_succ]
                refine wpAnyH_take (i := 11) (oi := { dst := some 49, op := Op.load 30 (Operand.tmp 48), type := 30, pos := "ref.go:53", after := #[{ on := 10, ground := Ground.data }, { on := 6, ground := Ground.guard }], guard := some (6, false) }) (v := ?_) rfl (by kernel_rfl) (by kernel_rfl) (by kernel_rfl) (fun _ _ _ h => h) (Or.inl ⟨by rfl, ?_⟩) (by assumption) ?_
                rotate_left
                focus ((intro w hSw; (try dsimp only at hSw); go_simp) <;> (try with_reducible rfl))
                try simp only [Act.put, List.setIfInBounds_toArray, List.set_cons_zero, List.set_cons_succ]
                refine wpAnyH_ready (rs := [12]) (by kernel_rfl) (by simp) ?_
                refine AllReadyH.cons (o := { dst := some 50, op := Op.call { callee := Callee.value (Operand.func 37), args := #[Operand.tmp 45, Operand.tmp 49], argTypes := #[30, 30] }, type := 4, pos := "ref.go:53", after := #[{ on := 7, ground := Ground.data }, { on := 11, ground := Ground.data }, { on := 6, ground := Ground.chain }, { on := 6, ground := Ground.guard }], guard := some (6, false) }) rfl (fun K hK => ?_) AllReadyH.nil
                go_simp
                (first | (go_at_call 37; refine (HLB.out _).mono ?_; rintro e w7 ⟨rfl, hb2⟩; have mm0 := (hb2.cell (p := ⟨w.heap.size, 0, none⟩) (Nat.lt_of_lt_of_le hA hb.size)).trans jj0; have mm1 := (hb2.cell (p := ⟨w.heap.size, 1, none⟩) (Nat.lt_of_lt_of_le hA hb.size)).trans jj1; have mm2 := (hb2.cell (p := ⟨w.heap.size, 2, none⟩) (Nat.lt_of_lt_of_le hA hb.size)).trans jj2; have mm3 := (hb2.cell (p := ⟨w.heap.size, 3, none⟩) (Nat.lt_of_lt_of_le hA hb.size)).trans jj3; have mm4 := (hb2.cell (p := ⟨w.heap.size, 4, none⟩) (Nat.lt_of_lt_of_le hA hb.size)).trans jj4; have nn0 := (hb2.cell (p := ⟨g, k * 5, none⟩) (Nat.lt_of_lt_of_le hg2 hb.size)).trans ii0; have nn1 := (hb2.cell (p := ⟨g, k * 5 + 1, none⟩) (Nat.lt_of_lt_of_le hg2 hb.size)).trans ii1; have nn2 := (hb2.cell (p := ⟨g, k * 5 + 2, none⟩) (Nat.lt_of_lt_of_le hg2 hb.size)).trans ii2; have nn3 := (hb2.cell (p := ⟨g, k * 5 + 3, none⟩) (Nat.lt_of_lt_of_le hg2 hb.size)).trans ii3; have nn4 := (hb2.cell (p := ⟨g, k * 5 + 4, none⟩) (Nat.lt_of_lt_of_le hg2 hb.size)).trans ii4; replace HB := Lib.hid (HB.out.trans (hb2.mono HB.out.size)); replace HPB := Lib.hid (HPB.out.below hb2); replace HO := Lib.hid (ownsRow_below HO.out hb2)))
                go_wp2_with fail
                refine hK.out _ _ (by (try dsimp only); go_keep) (fun hHeld => ?_)
                clear hK K
                try simp only [Act.put, List.setIfInBounds_toArray, List.set_cons_zero, List.set_cons_succ]
                refine wpAnyH_take (i := 13) (oi := { dst := some 51, op := Op.pick (Operand.tmp 44) (Operand.const (Value.bool true)) (Operand.tmp 50), type := 4, pos := "ref.go:53", after := #[{ on := 6, ground := Ground.data }, { on := 12, ground := Ground.data }], guard := none }) (v := ?_) rfl (by kernel_rfl) (by kernel_rfl) (by kernel_rfl) (fun _ _ _ h => h) (Or.inl ⟨by rfl, ?_⟩) (by assumption) ?_
                rotate_left
                focus ((intro w hSw; (try dsimp only at hSw); go_simp) <;> (try with_reducible rfl))
                try simp only [Act.put, List.setIfInBounds_toArray, List.set_cons_zero, List.set_cons_succ]
                refine wpAnyH_done (by kernel_rfl) ?_ _
                clear hb HBd HPd HOd jj0 jj1 jj2 jj3 jj4 ii0 ii1 ii2 ii3 ii4 hb2 mm0 mm1 mm2 mm3 mm4 nn0 nn1 nn2 nn3 nn4
                clear dd0 dd1 dd2 dd3 dd4 k0 k1 k2 k3 k4 hA hg2
                have dd0 := HPB.out.c0; have dd1 := HPB.out.c1; have dd2 := HPB.out.c2; have dd3 := HPB.out.c3; have dd4 := HPB.out.c4
                simp only at dd0 dd1 dd2 dd3 dd4
                obtain ⟨k0, k1, k2, k3, k4⟩ := HXC.out _ HB.out
                simp only at k0 k1 k2 k3 k4
                have hA := HPB.out.hi
                have hg2 := Nat.lt_of_lt_of_le hg HB.out.size
                go_wp2_with fail
                go_roundw
                case rel => exact ⟨k + 1, by omega, by go_num, by rw [HS.out], HB, HPB, by rw [HS.out]; exact HO⟩
                case measure => simp [intOf]; omega
        · obtain rfl : k = l.length := by omega
          have HVW := HRV
          clear HRV
          generalize (refTo l ⟨s, c, f, p, q⟩ l.length).1 = L at *
          generalize (refTo l ⟨s, c, f, p, q⟩ l.length).2 = pl at *
          cases pl with
          | true =>
            rw [if_pos rfl] at HVW
            obtain ⟨b7, c7, rfl, _, hr7⟩ := ARow.ofOwn HO.out
            have HR7 := Lib.hid hr7
            go_wp2_with fail
            go_ret2
            exact ⟨b7, c7, by rw [HVV1.out, HVV2.out, HVW.out]; rfl, by rw [HVV1.out, HVW.out]; exact Or.inl (HR7.out.mono (Nat.le_succ _)), HB.out⟩
          | false =>
            rw [if_neg (by simp)] at HVW
            have dd0 := HPB.out.c0; have dd1 := HPB.out.c1; have dd2 := HPB.out.c2; have dd3 := HPB.out.c3; have dd4 := HPB.out.c4
            simp only at dd0 dd1 dd2 dd3 dd4
            go_wp2_with (at_builtin; refine wpList_append_own _ rfl _ _ 26 rfl (w.heap.size + 1) 30 i0 _ 5 32 Try.underlying26 hi hz0 hz1 hz2 rfl (by decide) _ _ _ rfl (HO.out.alloc _) ⟨wr.heap.size, 0, none⟩ 1 1 [.int .i64 s, .int .i64 c, .int .i64 f, .bool p, .bool q] rfl rfl ?d1 ?d2 ?d3 ?d4 ?d5 ?_)
            case d1 =>
              intro j u hj
              rw [Addr.add_lit]
              exact cells_at (Blk.new wr s c f p q) j u hj
            case d2 =>
              intro u hu
              simp at hu
              rcases hu with rfl | rfl | rfl | rfl | rfl <;> rfl
            case d3 => unfold maxLen; (try simp only [List.length_append, List.length_singleton]); omega
            case d4 => (try simp only [List.length_append, List.length_singleton]); omega
            case d5 => have := HPB.out.hi; simp; omega
            intro vd wd hown' hgrow _
            have hbb : Below (w.heap.size + 1) wr wd := ((Below.refl (w.heap.size + 1) wr).alloc HPB.out.hi (Obj.cells #[Value.int IntKind.i64 s, Value.int IntKind.i64 c, Value.int IntKind.i64 f, Value.bool p, Value.bool q] 30)).grown hgrow (by have := HPB.out.hi; simp; omega) (fun x hx => (HO.out.lt x hx).1)
            replace HB := Lib.hid (HB.out.trans (hbb.mono (Nat.le_succ _)))
            replace HPB := Lib.hid (HPB.out.belowB hbb (Nat.lt_succ_self _))
            replace HO : Hid (wd.ownsRow (w.heap.size + 1) 30 5 vd (L ++ [(Ar.mk s c f p q)]).length (flat (L ++ [(Ar.mk s c f p q)]))) := by
              unfold Hid
              rw [flat_append, flat_one]
              simp only [List.length_append, List.length_singleton]
              simpa [Ar.cells] using hown'
            clear hgrow hown' hbb
            obtain ⟨b7, c7, rfl, _, hr7⟩ := ARow.ofOwn HO.out
            have HR7 := Lib.hid hr7
            have HLEN : Hid ((L ++ [(⟨s, c, f, p, q⟩ : Ar)]).length = L.length + 1) := by unfold Hid; simp
            go_wp2_with fail
            go_ret2
            exact ⟨b7, c7, by rw [HVV1.out, HVV2.out, HVW.out, HLEN.out]; rfl, by rw [HVV1.out, HVW.out]; exact Or.inl (HR7.out.mono (Nat.le_succ _)), HB.out⟩
end Go.Proofs.Ytodonnagmgbliaa
