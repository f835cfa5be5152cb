/- Layer 46, shared texts of this seat, part 15. -/
import Derived.Test.YtimhaidiclbnhaaGreatM14
/- Unmapping. -/
set_option linter.unusedSimpArgs false
set_option linter.unusedVariables false
set_option maxRecDepth 100000
namespace Go.Proofs.YtimhaidiclbnhaaGreat.Ara
open Go.ChangeShapes Go.WideShapes Go.ChangeAt Go.RowKit

def partsOf (s n : Int) (a : Ar) : List Ar := (partV a 0 s).toList ++ (partV a (s + n) 64).toList
def outTo (l : List Ar) (s n : Int) (k : Nat) : List Ar := (l.take k).flatMap (partsOf s n)
def unmapV (l : List Ar) (s n : Int) : List Ar × Int :=
  if checkV l = false then (l, 1) else if withinB s n 64 = false then (l, 2) else if 8 < (outTo l s n l.length).length then (l, 3) else (outTo l s n l.length, 0)
theorem outTo_succ (l : List Ar) (s n : Int) (k : Nat) (hk : k < l.length) : outTo l s n (k + 1) = outTo l s n k ++ (partV (l.getD k Ar.zero) 0 s).toList ++ (partV (l.getD k Ar.zero) (s + n) 64).toList := by
  unfold outTo
  rw [List.take_succ_eq_append_getElem hk, List.flatMap_append, show l.getD k Ar.zero = l[k] from by simp [List.getD, hk]]
  simp [partsOf]
theorem opt_len (o : Option Ar) : o.toList.length ≤ 1 := by cases o <;> simp
theorem outTo_len (l : List Ar) (s n : Int) (k : Nat) : (outTo l s n k).length ≤ 2 * k := by
  unfold outTo
  induction k with
  | zero => simp
  | succ k ih =>
    by_cases hk : k < l.length
    · have h := outTo_succ l s n k hk
      unfold outTo at h
      rw [h, List.length_append, List.length_append]
      have h1 := opt_len (partV (l.getD k Ar.zero) 0 s)
      have h2 := opt_len (partV (l.getD k Ar.zero) (s + n) 64)
      omega
    · rw [List.take_of_length_le (by omega)]
      rw [List.take_of_length_le (by omega)] at ih
      omega

theorem cell_snd (w : World) (A : Obj) (C : Array Value) (o : Nat) (v : Value) (h : C[o]? = some v) : ((w.alloc A).alloc (.cells C 139)).cell? ⟨w.heap.size + 1, o, none⟩ = some v := by
  have : ((w.alloc A).alloc (.cells C 139)).heap[w.heap.size + 1]? = some (.cells C 139) := by
    show ((w.heap.push A).push (.cells C 139))[w.heap.size + 1]? = _
    rw [Array.getElem?_push, if_pos (by simp)]
  simp only [World.cell?]
  rw [this]
  exact h
theorem part_some {a x : Ar} {u v : Int} (h : partV a u v = some x) : 1 ≤ x.cn := by
  unfold partV at h
  split at h
  · cases h
  · cases h
    show 1 ≤ min v (a.st + a.cn) - max u a.st
    omega
theorem own_below {w w' : World} {B : Nat} {e : TypeId} {size n : Nat} {v : Value} {xs : List Value} (h : w.ownsRow B e size v n xs) (hb : Below w.heap.size w w') : w'.ownsRow B e size v n xs := by
  refine ⟨h.1, ?_⟩
  rcases h.2 with hn | ⟨g, cap, cur, rfl, hg, hgg, rest⟩
  · exact Or.inl hn
  · exact Or.inr ⟨g, cap, cur, rfl, hg, by rw [hb.block g (Array.getElem?_eq_some_iff.1 hgg).1]; exact hgg, rest⟩

set_option maxHeartbeats 8000000 in
theorem unmap_any (B : Nat) (a : Option Addr) (l : List Ar) (cap : Nat) (s n : Int) (w : World) (h : ARow B a cap l w) (hl : l.length ≤ 100) :
    Calls Tryz.prog 109 #[.slice a l.length cap, .int .i64 s, .int .i64 n] w fun e w' => ∃ b c, e = .returned (.tuple #[.slice b (unmapV l s n).1.length c, .int .i64 (unmapV l s n).2]) ∧ ARow w.heap.size b c (unmapV l s n).1 w' ∧ Below w.heap.size w w' := by
  have HA : Hid (∀ W, Below w.heap.size w W → ∀ j, j < l.length → ∃ g, a = some ⟨g, 0, none⟩ ∧ g < W.heap.size ∧ (l.length : Int) ≤ cap ∧ Cel W g (j * 5) (l.getD j Ar.zero)) := by
    intro W hb j hj
    obtain ⟨g, h1, h2, h3, h4, h5, h6⟩ := (h.below hb).at (by omega)
    exact ⟨g, h1, h3, by omega, h6 j hj⟩
  have HCK := Lib.hid (check_any B a l cap w h hl)
  have HCL : Hid (∀ W, Below w.heap.size w W → Calls Tryz.prog 130 #[.slice a l.length cap] W fun e w' => ∃ b c, e = .returned (.slice b l.length c) ∧ ARow w.heap.size b c l w' ∧ Below W.heap.size W w') := by
    intro W hb
    refine (clone_any B a l cap W (h.below hb) (by omega)).mono ?_
    rintro e w' ⟨v, rfl, ho, hb2⟩
    obtain ⟨b, c, rfl, _, hr⟩ := ARow.ofOwn ho
    exact ⟨b, c, rfl, hr.mono hb.size, hb2⟩
  have HR : Hid (checkV l = true → ∀ j, j < l.length → rightB (l.getD j Ar.zero) = true) := fun hc j hj => (check_right hc j hj).1
  have HV1 : Hid (checkV l = false → unmapV l s n = (l, 1)) := fun hc => by unfold unmapV; rw [if_pos hc]
  have HV2 : Hid (checkV l = true → withinB s n 64 = false → unmapV l s n = (l, 2)) := fun hc hw => by unfold unmapV; rw [if_neg (by rw [hc]; simp), if_pos hw]
  have HV3 : Hid (checkV l = true → withinB s n 64 = true → unmapV l s n = if 8 < (outTo l s n l.length).length then (l, 3) else (outTo l s n l.length, 0)) := fun hc hw => by unfold unmapV; rw [if_neg (by rw [hc]; simp), if_neg (by rw [hw]; simp)]
  have HW := Lib.hid (fun w => within_any s n 64 w (by omega) (by omega))
  have HWI : Hid (withinB s n 64 = true → 0 ≤ s ∧ 1 ≤ n ∧ s + n ≤ 64) := fun hw => by
    unfold withinB at hw
    have := of_decide_eq_true hw
    omega
  clear h
  go_enter Tryz.func109, Tryz.ntmps109
  go_wp2_with fail
  refine HCK.out.mono ?_; rintro e w1 ⟨rfl, hb⟩
  have HB := Lib.hid hb
  clear hb HCK
  cases hcv : checkV l with
  | false =>
    have hv := HV1.out hcv
    have HVV := Lib.hid hv
    clear HV1 HV2 HV3 HR hv
    go_wp2_with fail
    refine (HCL.out _ HB.out).mono ?_; rintro e w2 ⟨b, c, rfl, hr, hb⟩
    replace HB := Lib.hid (HB.out.trans (hb.mono HB.out.size))
    go_wp2_with fail
    go_ret2
    exact ⟨b, c, by rw [HVV.out]; rfl, by rw [HVV.out]; exact hr, HB.out⟩
  | true =>
    have HR2 := Lib.hid (HR.out hcv)
    have HV4 := Lib.hid (HV2.out hcv)
    have HV5 := Lib.hid (HV3.out hcv)
    clear HV1 HV2 HV3 HR hcv
    go_wp2_with fail
    refine (HW.out _).mono ?_; rintro e w2 ⟨rfl, rfl⟩
    cases hwi : withinB s n 64 with
    | false =>
      have HVV := Lib.hid (HV4.out hwi)
      clear HV4 HV5
      go_wp2_with fail
      refine (HCL.out _ HB.out).mono ?_; rintro e w2 ⟨b, c, rfl, hr, hb⟩
      replace HB := Lib.hid (HB.out.trans (hb.mono HB.out.size))
      go_wp2_with fail
      go_ret2
      exact ⟨b, c, by rw [HVV.out]; rfl, by rw [HVV.out]; exact hr, HB.out⟩
    | true =>
      have HVV := Lib.hid (HV5.out hwi)
      obtain ⟨s0, n0, sn⟩ := HWI.out hwi
      clear HV4 HV5 HWI HW hwi
      go_wp2_with fail
      obtain ⟨i0, hi, hz0, hz1, hz2⟩ := info_parts area_info
      go_loopw [8, 30] (fun v8 v30 wr => ∃ k : Nat, k ≤ l.length ∧ v30 = .int .i64 k ∧ Hid (Below w.heap.size w wr) ∧ Hid (wr.ownsRow w.heap.size 139 5 v8 (outTo l s n k).length (flat (outTo l s n k)))) (fun _ v30 _ => 200 - (intOf v30).toNat)
      case atStart => exact ⟨0, Nat.zero_le _, rfl, HB, World.ownsRow_nil _ _ _ _⟩
      case round =>
        clear HB
        obtain ⟨k, hk, rfl, HB, HO⟩ := hrel
        by_cases hlt : k < l.length
        · have hlt' : (k : Int) < (l.length : Int) := by omega
          obtain ⟨g, rfl, hg, hcap, hcel⟩ := HA.out _ HB.out k hlt
          have hre := HR2.out k hlt
          have hol := outTo_len l s n k
          have hos := outTo_succ l s n k hlt
          clear HA HVV
          generalize l.getD k Ar.zero = e at *
          have hp1 := fun w => part_any e 0 s w hre (by omega) (by omega) (by omega) (by omega)
          have hp2 := fun w => part_any e (s + n) 64 w hre (by omega) (by omega) (by omega) (by omega)
          have hn1 : ∀ x, partV e 0 s = some x → 1 ≤ x.cn := fun x h => part_some h
          have hn2 : ∀ x, partV e (s + n) 64 = some x → 1 ≤ x.cn := fun x h => part_some h
          generalize partV e 0 s = o1 at *
          generalize partV e (s + n) 64 = o2 at *
          have HOS := Lib.hid hos
          clear hos hre
          obtain ⟨y1, t1, ey1, et1, H1⟩ : ∃ y1 t1, optA o1 = y1 ∧ o1.isSome = t1 ∧ Hid ((o1 = none ∧ y1 = Ar.zero) ∨ (o1 = some y1 ∧ 1 ≤ y1.cn)) := by
            cases o1 with
            | none => exact ⟨_, _, rfl, rfl, Or.inl ⟨rfl, rfl⟩⟩
            | some x => exact ⟨x, _, rfl, rfl, Or.inr ⟨rfl, hn1 x rfl⟩⟩
          obtain ⟨y2, t2, ey2, et2, H2⟩ : ∃ y2 t2, optA o2 = y2 ∧ o2.isSome = t2 ∧ Hid ((o2 = none ∧ y2 = Ar.zero) ∨ (o2 = some y2 ∧ 1 ≤ y2.cn)) := by
            cases o2 with
            | none => exact ⟨_, _, rfl, rfl, Or.inl ⟨rfl, rfl⟩⟩
            | some x => exact ⟨x, _, rfl, rfl, Or.inr ⟨rfl, hn2 x rfl⟩⟩
          rw [ey1, et1] at hp1
          rw [ey2, et2] at hp2
          clear ey1 et1 ey2 et2 hn1 hn2
          obtain ⟨s1, c1', f1, p1, b1⟩ := y1
          obtain ⟨s2, c2', f2, p2, b2⟩ := y2
          obtain ⟨es, ec, ef, ep, eb⟩ := e
          obtain ⟨k0, k1, k2, k3, k4⟩ := hcel
          unfold arVal at hp1 hp2
          simp only at k0 k1 k2 k3 k4 hp1 hp2
          have HP1 := Lib.hid hp1; have HP2 := Lib.hid hp2
          clear hp1 hp2
          have hw1 : IntKind.i64.wrap (s + n) = s + n := IntWalk.i64_in _ (by omega)
          generalize outTo l s n k = L at *
          have hbl := Blk.new wr es ec ef ep eb
          have HB2 := Lib.hid (HB.out.alloc HB.out.size (Obj.cells #[Value.int IntKind.i64 es, Value.int IntKind.i64 ec, Value.int IntKind.i64 ef, Value.int IntKind.i64 ep, Value.bool eb] 139))
          have HO2 := Lib.hid (HO.out.alloc (Obj.cells #[Value.int IntKind.i64 es, Value.int IntKind.i64 ec, Value.int IntKind.i64 ef, Value.int IntKind.i64 ep, Value.bool eb] 139))
          go_wp2_with fail
          generalize wr.alloc (Obj.cells #[Value.int IntKind.i64 es, Value.int IntKind.i64 ec, Value.int IntKind.i64 ef, Value.int IntKind.i64 ep, Value.bool eb] 139) = w3 at *
          generalize wr.heap.size = A at *
          clear HB HO k0 k1 k2 k3 k4
          refine (HP1.out _).mono ?_; rintro e w4 ⟨rfl, hb⟩
          replace HB2 := Lib.hid (HB2.out.trans (hb.mono HB2.out.size))
          replace HO2 := Lib.hid (own_below HO2.out hb)
          replace hbl := hbl.below hb
          clear hb
          have c0 := hbl.c0; have c1 := hbl.c1; have c2 := hbl.c2; have c3 := hbl.c3; have c4 := hbl.c4
          simp only at c0 c1 c2 c3 c4
          have hA4 := hbl.hi
          have hA5 : A ≠ w4.heap.size := by omega
          have hb1 := Blk.new w4 s1 c1' f1 p1 b1
          have HB5 := Lib.hid (HB2.out.alloc HB2.out.size (Obj.cells #[Value.int IntKind.i64 s1, Value.int IntKind.i64 c1', Value.int IntKind.i64 f1, Value.int IntKind.i64 p1, Value.bool b1] 139))
          have HO5 := Lib.hid (HO2.out.alloc (Obj.cells #[Value.int IntKind.i64 s1, Value.int IntKind.i64 c1', Value.int IntKind.i64 f1, Value.int IntKind.i64 p1, Value.bool b1] 139))
          go_wp2_with fail
          generalize w4.alloc (Obj.cells #[Value.int IntKind.i64 s1, Value.int IntKind.i64 c1', Value.int IntKind.i64 f1, Value.int IntKind.i64 p1, Value.bool b1] 139) = w5 at *
          generalize w4.heap.size = A1 at *
          clear HB2 HO2 hbl c0 c1 c2 c3 c4 hA4 hA5
          refine (HP2.out _).mono ?_; rintro e w6 ⟨rfl, hb⟩
          replace HB5 := Lib.hid (HB5.out.trans (hb.mono HB5.out.size))
          replace HO5 := Lib.hid (own_below HO5.out hb)
          replace hb1 := hb1.below hb
          clear hb
          have c0 := hb1.c0; have c1 := hb1.c1; have c2 := hb1.c2; have c3 := hb1.c3; have c4 := hb1.c4
          simp only at c0 c1 c2 c3 c4
          have hA4 := hb1.hi
          have hA5 : A1 ≠ w6.heap.size := by omega
          have hb2 := Blk.new w6 s2 c2' f2 p2 b2
          have HB7 := Lib.hid (HB5.out.alloc HB5.out.size (Obj.cells #[Value.int IntKind.i64 s2, Value.int IntKind.i64 c2', Value.int IntKind.i64 f2, Value.int IntKind.i64 p2, Value.bool b2] 139))
          have HO7 := Lib.hid (HO5.out.alloc (Obj.cells #[Value.int IntKind.i64 s2, Value.int IntKind.i64 c2', Value.int IntKind.i64 f2, Value.int IntKind.i64 p2, Value.bool b2] 139))
          go_wp2_with fail
          have HC1 : Hid (Cel ((w6.alloc (Obj.cells #[Value.int IntKind.i64 s2, Value.int IntKind.i64 c2', Value.int IntKind.i64 f2, Value.int IntKind.i64 p2, Value.bool b2] 139)).alloc (Obj.cells #[Value.int IntKind.i64 s1, Value.int IntKind.i64 c1', Value.int IntKind.i64 f1, Value.int IntKind.i64 p1, Value.bool b1, Value.int IntKind.i64 s2, Value.int IntKind.i64 c2', Value.int IntKind.i64 f2, Value.int IntKind.i64 p2, Value.bool b2] 139)) (w6.heap.size + 1) 0 ⟨s1, c1', f1, p1, b1⟩) := ⟨cell_snd _ _ _ _ _ rfl, cell_snd _ _ _ _ _ rfl, cell_snd _ _ _ _ _ rfl, cell_snd _ _ _ _ _ rfl, cell_snd _ _ _ _ _ rfl⟩
          have HC2 : Hid (Cel ((w6.alloc (Obj.cells #[Value.int IntKind.i64 s2, Value.int IntKind.i64 c2', Value.int IntKind.i64 f2, Value.int IntKind.i64 p2, Value.bool b2] 139)).alloc (Obj.cells #[Value.int IntKind.i64 s1, Value.int IntKind.i64 c1', Value.int IntKind.i64 f1, Value.int IntKind.i64 p1, Value.bool b1, Value.int IntKind.i64 s2, Value.int IntKind.i64 c2', Value.int IntKind.i64 f2, Value.int IntKind.i64 p2, Value.bool b2] 139)) (w6.heap.size + 1) 5 ⟨s2, c2', f2, p2, b2⟩) := ⟨cell_snd _ _ _ _ _ rfl, cell_snd _ _ _ _ _ rfl, cell_snd _ _ _ _ _ rfl, cell_snd _ _ _ _ _ rfl, cell_snd _ _ _ _ _ rfl⟩
          have HNE : Hid (∀ q, u8.ownBlock = some q → q ≠ w6.heap.size + 1) := fun q hq => by have := (HO5.out.lt q hq).2; omega
          have HB8 := Lib.hid (HB7.out.alloc HB7.out.size (Obj.cells #[Value.int IntKind.i64 s1, Value.int IntKind.i64 c1', Value.int IntKind.i64 f1, Value.int IntKind.i64 p1, Value.bool b1, Value.int IntKind.i64 s2, Value.int IntKind.i64 c2', Value.int IntKind.i64 f2, Value.int IntKind.i64 p2, Value.bool b2] 139))
          have HO8 := Lib.hid (HO7.out.alloc (Obj.cells #[Value.int IntKind.i64 s1, Value.int IntKind.i64 c1', Value.int IntKind.i64 f1, Value.int IntKind.i64 p1, Value.bool b1, Value.int IntKind.i64 s2, Value.int IntKind.i64 c2', Value.int IntKind.i64 f2, Value.int IntKind.i64 p2, Value.bool b2] 139))
          have HCS : Hid (w6.heap.size + 1 < ((w6.alloc (Obj.cells #[Value.int IntKind.i64 s2, Value.int IntKind.i64 c2', Value.int IntKind.i64 f2, Value.int IntKind.i64 p2, Value.bool b2] 139)).alloc (Obj.cells #[Value.int IntKind.i64 s1, Value.int IntKind.i64 c1', Value.int IntKind.i64 f1, Value.int IntKind.i64 p1, Value.bool b1, Value.int IntKind.i64 s2, Value.int IntKind.i64 c2', Value.int IntKind.i64 f2, Value.int IntKind.i64 p2, Value.bool b2] 139)).heap.size) := by unfold Hid; simp
          clear HB5 HB7 HO5 HO7 hb1 hb2 c0 c1 c2 c3 c4 hA4 hA5
          generalize (w6.alloc (Obj.cells #[Value.int IntKind.i64 s2, Value.int IntKind.i64 c2', Value.int IntKind.i64 f2, Value.int IntKind.i64 p2, Value.bool b2] 139)).alloc (Obj.cells #[Value.int IntKind.i64 s1, Value.int IntKind.i64 c1', Value.int IntKind.i64 f1, Value.int IntKind.i64 p1, Value.bool b1, Value.int IntKind.i64 s2, Value.int IntKind.i64 c2', Value.int IntKind.i64 f2, Value.int IntKind.i64 p2, Value.bool b2] 139) = w8 at *
          generalize w6.heap.size + 1 = C at *
          go_loopw [8, 52] (fun v8 v52 wx => Hid (Below w.heap.size w wx) ∧ C < wx.heap.size ∧ ((v52 = .int .i64 0 ∧ Hid (wx.ownsRow w.heap.size 139 5 v8 L.length (flat L)) ∧ Hid (Cel wx C 0 ⟨s1, c1', f1, p1, b1⟩) ∧ Hid (Cel wx C 5 ⟨s2, c2', f2, p2, b2⟩) ∧ Hid (∀ q, v8.ownBlock = some q → q ≠ C)) ∨ (v52 = .int .i64 1 ∧ Hid (wx.ownsRow w.heap.size 139 5 v8 (L ++ o1.toList).length (flat (L ++ o1.toList))) ∧ Hid (Cel wx C 5 ⟨s2, c2', f2, p2, b2⟩)) ∨ (v52 = .int .i64 2 ∧ Hid (wx.ownsRow w.heap.size 139 5 v8 (L ++ o1.toList ++ o2.toList).length (flat (L ++ o1.toList ++ o2.toList)))))) (fun _ v52 _ => 5 - (intOf v52).toNat)
          case atStart => exact ⟨HB8, HCS.out, Or.inl ⟨rfl, HO8, HC1, HC2, HNE⟩⟩
          case round =>
            clear HB8 HO8 HC1 HC2 HNE HCS
            obtain ⟨HB, hCs, hcase⟩ := hrel
            rcases hcase with ⟨rfl, HO, HC1, HC2, HNE⟩ | ⟨rfl, HO, HC2⟩ | ⟨rfl, HO⟩
            · have k0 := HC1.out.c0; have k1 := HC1.out.c1; have k2 := HC1.out.c2; have k3 := HC1.out.c3; have k4 := HC1.out.c4
              simp only at k0 k1 k2 k3 k4
              have hbs := HB.out.size
              have hCne : some C ≠ u8.ownBlock := fun h => HNE.out C h.symm rfl
              rcases H1.out with ⟨ho, hy⟩ | ⟨ho, hy⟩
              · simp only [Ar.zero, Ar.mk.injEq] at hy
                obtain ⟨rfl, rfl, rfl, rfl, rfl⟩ := hy
                subst ho
                go_wp2_with fail
                go_roundw
                case rel => exact ⟨HB.out.alloc HB.out.size _, by simp; omega, Or.inr (Or.inl ⟨by go_num, by rw [Option.toList_none, List.append_nil]; exact HO.out.alloc _, HC2.out.eq (fun i => (Below.refl wr.heap.size wr).alloc (Nat.le_refl _) _ |>.cell (p := ⟨C, i, none⟩) hCs)⟩)⟩
                case measure => simp [intOf]
              · have hyn : ¬ c1' = 0 := by omega
                subst ho
                clear H1
                have hLl : L.length ≤ 300 := by omega
    
                go_wp2_with (at_builtin; refine wpList_append_own _ rfl _ _ 106 rfl w.heap.size 139 i0 _ 5 40 Tryz.underlying106 hi hz0 hz1 hz2 rfl (by decide) _ _ _ rfl ((HO.out.alloc _).alloc _) ⟨wr.heap.size + 1, 0, none⟩ 1 1 [.int .i64 s1, .int .i64 c1', .int .i64 f1, .int .i64 p1, .bool b1] rfl rfl ?c1 ?c2 ?c3 ?c4 ?c5 ?_)
                case c1 =>
                  intro j u hj
                  rw [Addr.add_lit, Nat.zero_add]
                  exact cell_snd _ _ _ _ _ (by simpa using hj)
                case c2 =>
                  intro u hu
                  simp at hu
                  rcases hu with rfl | rfl | rfl | rfl | rfl <;> rfl
                case c3 => unfold maxLen; omega
                case c4 => omega
                case c5 => simp; omega
                intro v' w' hown' hgrow _
                have HB3 := Lib.hid (((HB.out.alloc HB.out.size (Obj.cells #[Value.int IntKind.i64 s1, Value.int IntKind.i64 c1', Value.int IntKind.i64 f1, Value.int IntKind.i64 p1, Value.bool b1] 139)).alloc (by simp; omega) (Obj.cells #[Value.int IntKind.i64 s1, Value.int IntKind.i64 c1', Value.int IntKind.i64 f1, Value.int IntKind.i64 p1, Value.bool b1] 139)).grown hgrow (by simp; omega) (fun x hx => (HO.out.lt x hx).1))
                have hCs3 : C < w'.heap.size := Nat.lt_of_lt_of_le (by simp; omega) hgrow.size
                have HO3 : Hid (w'.ownsRow w.heap.size 139 5 v' (L ++ (some (Ar.mk s1 c1' f1 p1 b1)).toList).length (flat (L ++ (some (Ar.mk s1 c1' f1 p1 b1)).toList))) := by
                  unfold Hid
                  rw [flat_append, List.length_append]
                  exact hown'
                have hcel3 : ∀ i, w'.cell? ⟨C, i, none⟩ = wr.cell? ⟨C, i, none⟩ := fun i => by
                  rw [World.cell?_of_block (w := (wr.alloc (Obj.cells #[Value.int IntKind.i64 s1, Value.int IntKind.i64 c1', Value.int IntKind.i64 f1, Value.int IntKind.i64 p1, Value.bool b1] 139)).alloc (Obj.cells #[Value.int IntKind.i64 s1, Value.int IntKind.i64 c1', Value.int IntKind.i64 f1, Value.int IntKind.i64 p1, Value.bool b1] 139)) (a := ⟨C, i, none⟩) (hgrow.block C (by simp; omega) hCne)]
                  exact ((Below.refl wr.heap.size wr).alloc (Nat.le_refl _) (Obj.cells #[Value.int IntKind.i64 s1, Value.int IntKind.i64 c1', Value.int IntKind.i64 f1, Value.int IntKind.i64 p1, Value.bool b1] 139) |>.alloc (by simp) (Obj.cells #[Value.int IntKind.i64 s1, Value.int IntKind.i64 c1', Value.int IntKind.i64 f1, Value.int IntKind.i64 p1, Value.bool b1] 139)).cell (p := ⟨C, i, none⟩) hCs
                clear hgrow hown'
                go_wp2_with fail
                go_roundw
                case rel => exact ⟨HB3, hCs3, Or.inr (Or.inl ⟨by go_num, HO3, HC2.out.eq hcel3⟩)⟩
                case measure => simp [intOf]
            · have k0 := HC2.out.c0; have k1 := HC2.out.c1; have k2 := HC2.out.c2; have k3 := HC2.out.c3; have k4 := HC2.out.c4
              simp only at k0 k1 k2 k3 k4
              have hbs := HB.out.size
              rcases H2.out with ⟨ho, hy⟩ | ⟨ho, hy⟩
              · simp only [Ar.zero, Ar.mk.injEq] at hy
                obtain ⟨rfl, rfl, rfl, rfl, rfl⟩ := hy
                subst ho
                go_wp2_with fail
                go_roundw
                case rel => exact ⟨HB.out.alloc HB.out.size _, by simp; omega, Or.inr (Or.inr ⟨by go_num, by rw [Option.toList_none, List.append_nil]; exact HO.out.alloc _⟩)⟩
                case measure => simp [intOf]
              · have hyn : ¬ c2' = 0 := by omega
                subst ho
                clear H2
                have hLl : (L ++ o1.toList).length ≤ 300 := by have := opt_len o1; simp only [List.length_append]; omega
                have hLeq : Hid True := trivial
                go_wp2_with (at_builtin; refine wpList_append_own _ rfl _ _ 106 rfl w.heap.size 139 i0 _ 5 40 Tryz.underlying106 hi hz0 hz1 hz2 rfl (by decide) _ _ _ rfl ((HO.out.alloc _).alloc _) ⟨wr.heap.size + 1, 0, none⟩ 1 1 [.int .i64 s2, .int .i64 c2', .int .i64 f2, .int .i64 p2, .bool b2] rfl rfl ?c1 ?c2 ?c3 ?c4 ?c5 ?_)
                case c1 =>
                  intro j u hj
                  rw [Addr.add_lit, Nat.zero_add]
                  exact cell_snd _ _ _ _ _ (by simpa using hj)
                case c2 =>
                  intro u hu
                  simp at hu
                  rcases hu with rfl | rfl | rfl | rfl | rfl <;> rfl
                case c3 => unfold maxLen; omega
                case c4 => omega
                case c5 => simp; omega
                intro v' w' hown' hgrow _
                have HB3 := Lib.hid (((HB.out.alloc HB.out.size (Obj.cells #[Value.int IntKind.i64 s2, Value.int IntKind.i64 c2', Value.int IntKind.i64 f2, Value.int IntKind.i64 p2, Value.bool b2] 139)).alloc (by simp; omega) (Obj.cells #[Value.int IntKind.i64 s2, Value.int IntKind.i64 c2', Value.int IntKind.i64 f2, Value.int IntKind.i64 p2, Value.bool b2] 139)).grown hgrow (by simp; omega) (fun x hx => (HO.out.lt x hx).1))
                have hCs3 : C < w'.heap.size := Nat.lt_of_lt_of_le (by simp; omega) hgrow.size
                have HO3 : Hid (w'.ownsRow w.heap.size 139 5 v' ((L ++ o1.toList) ++ (some (Ar.mk s2 c2' f2 p2 b2)).toList).length (flat ((L ++ o1.toList) ++ (some (Ar.mk s2 c2' f2 p2 b2)).toList))) := by
                  unfold Hid
                  rw [flat_append, List.length_append, List.length_append]
                  exact hown'
                clear hgrow hown'
                go_wp2_with fail
                go_roundw
                case rel => exact ⟨HB3, hCs3, Or.inr (Or.inr ⟨by go_num, HO3⟩)⟩
                case measure => simp [intOf]
            · go_wp2_with fail
              go_roundw
              case rel => exact ⟨k + 1, by omega, by go_num, HB, by rw [HOS.out]; exact HO⟩
              case measure => simp [intOf]; omega
        · obtain rfl : k = l.length := by omega
          obtain ⟨b, c, rfl, hn, hr⟩ := ARow.ofOwn HO.out
          by_cases h8 : 8 < (outTo l s n l.length).length
          · have hv := HVV.out
            rw [if_pos h8] at hv
            have HV6 := Lib.hid hv
            have h9 : (8 : Int) < ((outTo l s n l.length).length : Int) := by omega
            clear hv HVV
            go_wp2_with fail
            refine (HCL.out _ HB.out).mono ?_; rintro e w2 ⟨b', c', rfl, hr', hb⟩
            replace HB := Lib.hid (HB.out.trans (hb.mono HB.out.size))
            go_wp2_with fail
            go_ret2
            exact ⟨b', c', by rw [HV6.out]; rfl, by rw [HV6.out]; exact hr', HB.out⟩
          · have hv := HVV.out
            rw [if_neg h8] at hv
            have HV6 := Lib.hid hv
            have h9 : ((outTo l s n l.length).length : Int) ≤ 8 := by omega
            clear hv HVV
            go_wp2_with fail
            go_ret2
            exact ⟨b, c, by rw [HV6.out]; rfl, by rw [HV6.out]; exact hr, HB.out⟩
end Go.Proofs.YtimhaidiclbnhaaGreat.Ara
/- slices.Insert at areas: at the end; mapping an area. -/
set_option linter.unusedSimpArgs false
set_option linter.unusedVariables false
set_option maxRecDepth 100000
namespace Go.Proofs.YtimhaidiclbnhaaGreat.Ara
open Go.ChangeShapes Go.WideShapes Go.ChangeAt Go.RowKit

/-- l with x put in at place i -/
def insAt (l : List Ar) (i : Nat) (x : Ar) : List Ar := l.take i ++ x :: l.drop i
/-- what slices.Insert answers: a row of the call's own with x put in -/
def InsPost (B : Nat) (l : List Ar) (i : Nat) (x : Ar) (w : World) (e : Ending) (w' : World) : Prop :=
  ∃ a c, e = .returned (.slice a (l.length + 1) c) ∧ w'.ownsRow B 139 5 (.slice a (l.length + 1) c) (l.length + 1) (flat (insAt l i x)) ∧ Below B w w'

theorem insPost_of {B : Nat} {l : List Ar} {x : Ar} {v0 v' : Value} {w w' : World} (h : w'.ownsRow B 139 5 v' (l.length + 1) (flat l ++ [.int .i64 x.st, .int .i64 x.cn, .int .i64 x.fi, .int .i64 x.pg, .bool x.wr])) (hg : w.grownBy w' v0.ownBlock)
    (ho : w.ownsRow B 139 5 v0 l.length (flat l)) (hB : B ≤ w.heap.size) : InsPost B l l.length x w (.returned v') w' := by
  have he : flat l ++ [.int .i64 x.st, .int .i64 x.cn, .int .i64 x.fi, .int .i64 x.pg, .bool x.wr] = flat (l ++ [x]) := by rw [flat_append, flat_one]; rfl
  rw [he, show l.length + 1 = (l ++ [x]).length from by simp] at h
  obtain ⟨a, c, rfl, _, _⟩ := ARow.ofOwn h
  rw [show (l ++ [x]).length = l.length + 1 from by simp] at h ⊢
  refine ⟨a, c, rfl, ?_, (Below.refl B w).grown hg hB (fun k hk => (ho.lt k hk).1)⟩
  rw [show insAt l l.length x = l ++ [x] from by simp [insAt]]
  exact h

set_option maxHeartbeats 2000000 in
theorem insert_end (B : Nat) (a : Option Addr) (cap : Nat) (l : List Ar) (x : Ar) (vb : Nat) (w : World) (ho : w.ownsRow B 139 5 (.slice a l.length cap) l.length (flat l)) (hB : B ≤ w.heap.size) (hl : l.length ≤ 100) (hv : Cel w vb 0 x) :
    Calls Tryz.prog 134 #[.slice a l.length cap, .int .i64 l.length, .slice (some ⟨vb, 0, none⟩) 1 1] w (InsPost B l l.length x w) := by
  obtain ⟨i0, hi, hz0, hz1, hz2⟩ := info_parts area_info
  have hcap : (l.length : Int) ≤ cap := by
    rcases ho.2 with ⟨h, h2⟩ | ⟨g, c, cur, h, _, _, h3, _⟩
    · rw [h2]; omega
    · cases h; omega
  obtain ⟨s, c, f, p, b⟩ := x
  have HV5 : Hid (∀ j u, [Value.int .i64 s, .int .i64 c, .int .i64 f, .int .i64 p, .bool b][j]? = some u → w.cell? ⟨vb, 0 + j, none⟩ = some u) := by
    intro j u hj
    have hj5 : j < 5 := by simpa using (List.getElem?_eq_some_iff.1 hj).1
    have h5 : j = 0 ∨ j = 1 ∨ j = 2 ∨ j = 3 ∨ j = 4 := by omega
    rcases h5 with rfl | rfl | rfl | rfl | rfl <;> simp at hj <;> subst hj
    · exact hv.c0
    · exact hv.c1
    · exact hv.c2
    · exact hv.c3
    · exact hv.c4
  have HO := Lib.hid ho
  clear hv
  rcases ho.2 with ⟨hn, hn2⟩ | ⟨g, c', cur, hg, hg1, hg2, hg3, hg4, _⟩
  · simp only [Value.slice.injEq] at hn
    obtain ⟨rfl, _, rfl⟩ := hn
    have hl0 := List.length_eq_zero_iff.1 hn2
    subst hl0
    clear ho hcap hn2
    have HL : Hid (∃ L : List Ar, L = []) := ⟨[], rfl⟩
    go_enter Tryz.func134, Tryz.ntmps134
    go_wp2_with (at_builtin; refine wpList_append_own _ rfl _ _ 106 rfl B 139 i0 _ 5 40 Tryz.underlying106 hi hz0 hz1 hz2 rfl (by decide) _ _ _ rfl HO.out ⟨vb, 0, none⟩ 1 1 [.int .i64 s, .int .i64 c, .int .i64 f, .int .i64 p, .bool b] rfl rfl ?c1 ?c2 ?c3 ?c4 hB ?_)
    case c1 =>
      intro j u hj
      rw [Addr.add_lit]
      exact HV5.out j u hj
    case c2 =>
      intro u hu
      simp at hu
      rcases hu with rfl | rfl | rfl | rfl | rfl <;> rfl
    case c3 => unfold maxLen; omega
    case c4 => omega
    intro v' w' hown' hgrow _
    have HP : Hid (InsPost B [] 0 ⟨s, c, f, p, b⟩ w (.returned v') w') := insPost_of hown' hgrow HO.out hB
    clear hown' hgrow
    go_wp2_with fail
    go_ret
    exact HP.out
  · cases hg
    have hc1 : l.length ≤ cap := hg3
    unfold maxLen at hg4
    have hc2 : (cap : Int) ≤ 9223372036854775807 := by omega
    clear ho hg1 hg2 hg4
    by_cases hcl : cap = l.length
    · subst hcl
      go_enter Tryz.func134, Tryz.ntmps134
      go_wp2_with (at_builtin; refine wpList_append_own _ rfl _ _ 106 rfl B 139 i0 _ 5 40 Tryz.underlying106 hi hz0 hz1 hz2 rfl (by decide) _ _ _ rfl HO.out ⟨vb, 0, none⟩ 1 1 [.int .i64 s, .int .i64 c, .int .i64 f, .int .i64 p, .bool b] rfl rfl ?c1 ?c2 ?c3 ?c4 hB ?_)
      case c1 =>
        intro j u hj
        rw [Addr.add_lit]
        exact HV5.out j u hj
      case c2 =>
        intro u hu
        simp at hu
        rcases hu with rfl | rfl | rfl | rfl | rfl <;> rfl
      case c3 => unfold maxLen; omega
      case c4 => omega
      intro v' w' hown' hgrow _
      have HP : Hid (InsPost B l l.length ⟨s, c, f, p, b⟩ w (.returned v') w') := insPost_of hown' hgrow HO.out hB
      clear hown' hgrow
      go_wp2_with fail
      go_ret
      exact HP.out
    · have hcl2 : l.length < cap := by omega
      go_enter Tryz.func134, Tryz.ntmps134
      go_wp2_with (at_builtin; refine wpList_append_own _ rfl _ _ 106 rfl B 139 i0 _ 5 40 Tryz.underlying106 hi hz0 hz1 hz2 rfl (by decide) _ _ _ rfl HO.out ⟨vb, 0, none⟩ 1 1 [.int .i64 s, .int .i64 c, .int .i64 f, .int .i64 p, .bool b] rfl rfl ?c1 ?c2 ?c3 ?c4 hB ?_)
      case c1 =>
        intro j u hj
        rw [Addr.add_lit]
        exact HV5.out j u hj
      case c2 =>
        intro u hu
        simp at hu
        rcases hu with rfl | rfl | rfl | rfl | rfl <;> rfl
      case c3 => unfold maxLen; omega
      case c4 => omega
      intro v' w' hown' hgrow _
      have HP : Hid (InsPost B l l.length ⟨s, c, f, p, b⟩ w (.returned v') w') := insPost_of hown' hgrow HO.out hB
      clear hown' hgrow
      go_wp2_with fail
      go_ret
      exact HP.out
end Go.Proofs.YtimhaidiclbnhaaGreat.Ara
