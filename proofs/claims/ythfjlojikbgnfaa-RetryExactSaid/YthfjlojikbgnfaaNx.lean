/- retry.Next and the document's. -/
import Derived.Test.YthfjlojikbgnfaaRd
namespace Go.Proofs.Ythfjlojikbgnfaa
open Go.ChangeShapes Go.WideShapes Go.ChangeAt Go.RowKit

/-- the least tick of the first k bunches -/
def leastTo (l : List Ar) (k : Nat) : Int := (l.take k).foldl (fun m y => min m y.tk) (l.getD 0 Ar.zero).tk
def leastL (l : List Ar) : Int := leastTo l l.length
theorem leastTo_succ (l : List Ar) (k : Nat) (hk : k < l.length) : leastTo l (k + 1) = min (leastTo l k) (l.getD k Ar.zero).tk := by
  unfold leastTo
  rw [List.take_add_one, List.foldl_append, getD_get hk, List.getElem?_eq_getElem hk]
  rfl
def nextVal (l : List Ar) : Value := if l.length = 0 then .tuple #[.int .i64 0, .bool false] else .tuple #[.int .i64 (leastL l), .bool true]
set_option maxHeartbeats 1000000 in
theorem next_any (a : Option Addr) (l : List Ar) (cap : Nat) (w : World) (h : ARow w a cap l) (hl : l.length ≤ 1000) :
    Calls Try.prog 16 #[.slice a l.length cap] w (RetW (nextVal l) w) := by
  have HRW : Hid (∀ W, Below w.heap.size w W → ∀ j, j < l.length → ∃ g o, a = some ⟨g, o, none⟩ ∧ (l.length : Int) ≤ cap ∧ W.rangeAt g (o + j * 11) (l.getD j Ar.zero).cells) := by
    intro W hb j hj
    obtain ⟨g, o, h1, h2, h3, h4, h5⟩ := (h.below hb).at (by omega)
    exact ⟨g, o, h1, by omega, h5 j hj⟩
  have HV0 : Hid (l.length = 0 → nextVal l = .tuple #[.int .i64 0, .bool false]) := fun h => by unfold nextVal; rw [if_pos h]
  have HV1 : Hid (0 < l.length → nextVal l = .tuple #[.int .i64 (leastL l), .bool true]) := fun h => by unfold nextVal; rw [if_neg (by omega)]
  clear h
  generalize nextVal l = V at *
  by_cases h0 : l.length = 0
  · have HV := Lib.hid (HV0.out h0)
    rw [h0]
    clear h0 HV0 HV1
    go_enter Try.func16, Try.ntmps16
    go_wp2_with fail
    go_ret2
    exact RetW.mk HV.out.symm (Below.refl _ _)
  · have HV := Lib.hid (HV1.out (by omega))
    have hp : ¬ ((l.length : Int) = 0) := by omega
    have hp2 : (0 : Int) < (l.length : Int) := by omega
    have hz : ((l.length : Int) == 0) = false := beq_eq_false_iff_ne.2 hp
    obtain ⟨g, o, rfl, hcap, hr0⟩ := HRW.out w (Below.refl _ _) 0 (by omega)
    have hc9 : w.cell? ⟨g, o + 9, none⟩ = some (.int .i64 (l.getD 0 Ar.zero).tk) := hr0 9 _ (by simp [Ar.cells])
    have HL0 : Hid ((l.getD 0 Ar.zero).tk = leastTo l 0) := by simp [Hid, leastTo]
    generalize (l.getD 0 Ar.zero).tk = t0 at *
    clear HV0 HV1 h0 hr0
    go_enter Try.func16, Try.ntmps16
    go_wp2_with fail
    go_loopw [4, 16] (fun v4 v16 wr => ∃ k : Nat, k ≤ l.length ∧ v4 = .int .i64 (leastTo l k) ∧ v16 = .int .i64 k ∧ Hid (Below w.heap.size w wr)) (fun _ v16 _ => 2000 - (intOf v16).toNat)
    case atStart => exact ⟨0, Nat.zero_le _, by rw [← HL0.out], rfl, Below.refl _ _⟩
    case round =>
      obtain ⟨k, hk, rfl, rfl, HB⟩ := hrel
      by_cases hlt : k < l.length
      · have hlt' : (k : Int) < (l.length : Int) := by omega
        obtain ⟨g', o', he, _, hrow⟩ := HRW.out wr HB.out k hlt
        simp only [Option.some.injEq, Addr.mk.injEq, and_true] at he
        obtain ⟨rfl, rfl⟩ := he
        have HROW := Lib.hid hrow
        have HLS : Hid (min (leastTo l k) (l.getD k Ar.zero).tk = leastTo l (k + 1)) := (leastTo_succ l k hlt).symm
        clear hrow
        generalize l.getD k Ar.zero = x at *
        generalize leastTo l k = m at *
        obtain ⟨W0, hW0⟩ : ∃ W0, W0 = wr.alloc (Obj.cells ZL.toArray 40) := ⟨_, rfl⟩
        have HA0 : Hid (At W0 wr.heap.size ZL) := by rw [hW0]; exact At.new wr ZL 40
        have HB0 : Hid (Below w.heap.size w W0) := by rw [hW0]; exact HB.out.alloc HB.out.size _
        simp only [ZL] at hW0
        have hbs : w.heap.size ≤ wr.heap.size := HB.out.size
        go_wp2_with (with_reducible refine hold_load 40 rfl ?_)
        refine load_ato (o + k * 11) HROW.out Try.underlying40 rfl size40 rfl rfl rfl ?_
        go_wp2_with (with_reducible refine hold_store 40 rfl ?_)
        rw [← hW0]
        clear hW0
        refine store_ato 0 x.cells HA0.out.t rfl size40 (all_oneCell_toArray (oneC x)) rfl rfl rfl rfl ?_
        intro W2 hW2
        have HA2 : Hid (At W2 wr.heap.size x.cells) := hW2 ▸ HA0.out.store x.cells rfl
        have HB2 : Hid (Below w.heap.size w W2) := by rw [hW2]; exact below_cells hbs _ _ HB0.out
        clear hW2 HA0 HB0
        have hc9 : W2.cell? ⟨wr.heap.size, 9, none⟩ = some (.int .i64 x.tk) := HA2.out.cell 9 _ rfl
        go_wp2_with fail
        go_roundw
        case rel => exact ⟨k + 1, by omega, by rw [← HLS.out]; try rfl, by go_num, HB2⟩
        case measure => simp [intOf]; omega
      · obtain rfl : k = l.length := by omega
        go_wp2_with fail
        go_ret2
        exact RetW.mk (by rw [HV.out]; rfl) HB.out
set_option maxHeartbeats 1000000 in
theorem nextR_any (a : Option Addr) (l : List Ar) (cap : Nat) (w : World) (h : ARow w a cap l) (hl : l.length ≤ 1000) :
    Calls Try.prog 17 #[.slice a l.length cap] w (RetW (nextVal l) w) := by
  have HRW : Hid (∀ j, j < l.length → ∃ g o, a = some ⟨g, o, none⟩ ∧ (l.length : Int) ≤ cap ∧ w.rangeAt g (o + j * 11) (l.getD j Ar.zero).cells) := by
    intro j hj
    obtain ⟨g, o, h1, h2, h3, h4, h5⟩ := h.at (by omega)
    exact ⟨g, o, h1, by omega, h5 j hj⟩
  have HV0 : Hid (l.length = 0 → nextVal l = .tuple #[.int .i64 0, .bool false]) := fun h => by unfold nextVal; rw [if_pos h]
  have HV1 : Hid (0 < l.length → nextVal l = .tuple #[.int .i64 (leastL l), .bool true]) := fun h => by unfold nextVal; rw [if_neg (by omega)]
  clear h
  generalize nextVal l = V at *
  go_enter Try.func17, Try.ntmps17
  go_wp2_with fail
  go_loopw [4, 5, 6] (fun v4 v5 v6 wr => ∃ k : Nat, k ≤ l.length ∧ v4 = .int .i64 (if k = 0 then 0 else leastTo l k) ∧ v5 = .bool (decide (0 < k)) ∧ v6 = .int .i64 k ∧ wr = w) (fun _ _ v6 _ => 2000 - (intOf v6).toNat)
  case atStart => exact ⟨0, Nat.zero_le _, rfl, rfl, rfl, rfl⟩
  case round =>
    obtain ⟨k, hk, rfl, rfl, rfl, rfl⟩ := hrel
    by_cases hlt : k < l.length
    · have hlt' : (k : Int) < (l.length : Int) := by omega
      obtain ⟨g, o, rfl, hcap, hrow⟩ := HRW.out k hlt
      have hc9 : wr.cell? ⟨g, o + k * 11 + 9, none⟩ = some (.int .i64 (l.getD k Ar.zero).tk) := hrow 9 _ (by simp [Ar.cells])
      have HLS : Hid (min (leastTo l k) (l.getD k Ar.zero).tk = leastTo l (k + 1)) := (leastTo_succ l k hlt).symm
      have HL0 : Hid (leastTo l 0 = (l.getD 0 Ar.zero).tk) := by simp [Hid, leastTo]
      clear hrow
      by_cases h0 : k = 0
      · subst h0
        have HT : Hid ((l.getD 0 Ar.zero).tk = leastTo l (0 + 1)) := by rw [← HLS.out, HL0.out, Int.min_self]; exact rfl
        clear HLS HL0
        generalize (l.getD 0 Ar.zero).tk = t at *
        simp only [Nat.zero_mul, Nat.add_zero] at hc9
        go_wp2_with fail
        go_roundw
        case rel => exact ⟨1, by omega, by rw [if_neg (by omega), HT.out], by rfl, by rfl, by first | rfl | trivial⟩
        case measure => simp [intOf]
      · rw [if_neg h0, show decide (0 < k) = true from decide_eq_true (by omega)]
        clear HL0
        generalize (l.getD k Ar.zero).tk = t at *
        generalize leastTo l k = m at *
        by_cases hm : t < m
        · have HM : Hid (min m t = t) := Int.min_eq_right (by omega)
          go_wp2_with fail
          go_roundw
          case rel => exact ⟨k + 1, by omega, by rw [if_neg (by omega), ← HLS.out, HM.out], by simp, by go_num, by first | rfl | trivial⟩
          case measure => simp [intOf]; omega
        · have HM : Hid (min m t = m) := Int.min_eq_left (by omega)
          go_wp2_with fail
          go_roundw
          case rel => exact ⟨k + 1, by omega, by rw [if_neg (by omega), ← HLS.out, HM.out], by simp, by go_num, by first | rfl | trivial⟩
          case measure => simp [intOf]; omega
    · obtain rfl : k = l.length := by omega
      by_cases h0 : l.length = 0
      · have HV := Lib.hid (HV0.out h0)
        rw [h0]
        go_wp2_with fail
        go_ret2
        exact RetW.mk HV.out.symm (Below.refl _ _)
      · have HV := Lib.hid (HV1.out (by omega))
        rw [if_neg h0, decide_eq_true (show 0 < l.length by omega)]
        go_wp2_with fail
        go_ret2
        exact RetW.mk HV.out.symm (Below.refl _ _)
end Go.Proofs.Ythfjlojikbgnfaa
