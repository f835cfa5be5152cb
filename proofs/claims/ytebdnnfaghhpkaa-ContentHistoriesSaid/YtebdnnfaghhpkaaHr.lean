/- Which contents a history permits: the document's way; comparing histories. -/
import Derived.Test.YtebdnnfaghhpkaaHx
import Derived.Test.YtebdnnfaghhpkaaWrf
namespace Go.Proofs.Ytebdnnfaghhpkaa
open Go.ChangeShapes Go.WideShapes Go.ChangeAt Go.RowKit

set_option maxHeartbeats 4000000 in
theorem mayR_any (B : Nat) (a : Option Addr) (l : List ByteArray) (cap : Nat) (q : Int) (s : ByteArray) (w : World) (h : StrRow B a cap l w) (hl : l.length ≤ 10000) (hs : ∀ x, x ∈ l → x.size ≤ 10000) (hs2 : s.size ≤ 10000) :
    Calls Try.prog 25 #[.agg #[.slice a l.length cap, .int .i64 q], .string s] w (RetW (.bool (mayV l q s)) w) := by
  by_cases hq : q < 0 ∨ (l.length : Int) ≤ q
  · have HR : Hid (mayV l q s = false) := mayV_out hq
    have HQ := Lib.hid hq
    clear hq
    go_enter Try.func25, Try.ntmps25
    go_wp2_with fail
    all_goals
      first
      | (exfalso; have := HQ.out; omega)
      | (go_ret
         exact RetW.mk (by rw [HR.out]; rfl) ((Below.refl _ w).alloc (Nat.le_refl _) _))
  · obtain ⟨q, rfl⟩ := Int.eq_ofNat_of_zero_le (show 0 ≤ q by omega)
    have hql : q < l.length := by omega
    rcases h with ⟨rfl, rfl, rfl⟩ | ⟨g, rfl, h2, h3, h4, h5, h6⟩
    · exact absurd hql (Nat.not_lt_zero _)
    have HV : Hid (mayV l (q : Int) s = (allTo l q s 128 && (l.drop q).any fun x => x.size == s.size)) := mayV_in hql
    have HL : Hid (∀ j, j < l.length → (l.getD j ByteArray.empty).size ≤ 10000) := by
      intro j hj
      exact hs _ (by simp [List.getD, hj])
    have HC : Hid (∀ j, j < l.length → w.cell? ⟨g, j, none⟩ = some (.string (l.getD j ByteArray.empty))) := h6
    have h1 : (q : Int) < (l.length : Int) := by omega
    have h0 : (0 : Int) ≤ (q : Int) := by omega
    have hcap : (l.length : Int) ≤ (cap : Int) := by omega
    clear hq h6 hs
    go_enter Try.func25, Try.ntmps25
    go_wp2_with fail
    have HB0 : Hid (Below w.heap.size w (w.alloc (Obj.cells #[Value.slice (some { block := g, off := 0 }) l.length cap, Value.int IntKind.i64 ↑q] 40))) := (Below.refl _ w).alloc (Nat.le_refl _) _
    have p0 : (w.alloc (Obj.cells #[Value.slice (some { block := g, off := 0 }) l.length cap, Value.int IntKind.i64 ↑q] 40)).cell? ⟨w.heap.size, 0, none⟩ = some (.slice (some ⟨g, 0, none⟩) l.length cap) := by simp
    have p1 : (w.alloc (Obj.cells #[Value.slice (some { block := g, off := 0 }) l.length cap, Value.int IntKind.i64 ↑q] 40)).cell? ⟨w.heap.size, 1, none⟩ = some (.int .i64 q) := by simp
    have HC0 : Hid (∀ j, j < l.length → (w.alloc (Obj.cells #[Value.slice (some { block := g, off := 0 }) l.length cap, Value.int IntKind.i64 ↑q] 40)).cell? ⟨g, j, none⟩ = some (.string (l.getD j ByteArray.empty))) := fun j hj => Lib.cell?_alloc_some _ (HC.out j hj)
    generalize w.alloc (Obj.cells #[Value.slice (some { block := g, off := 0 }) l.length cap, Value.int IntKind.i64 ↑q] 40) = W0 at *
    generalize decide (l.length ≤ q) = b1
    generalize decide ((q : Int) < 0) = b2
    go_loopw [5, 6] (fun v5 v6 wr => ∃ k : Nat, q ≤ k ∧ k ≤ l.length ∧ v5 = .bool (anyFrom (fun x => x.size == s.size) l q k) ∧ v6 = .int .i64 k ∧ wr = W0) (fun _ v6 _ => 20000 - (intOf v6).toNat)
    case atStart => exact ⟨q, Nat.le_refl _, by omega, by rw [anyFrom_zero _ _ _ _ (Nat.le_refl _)], rfl, rfl⟩
    case round =>
      obtain ⟨k, hk1, hk2, rfl, rfl, rfl⟩ := hrel
      by_cases hlt : k < l.length
      · have hlt' : (k : Int) < (l.length : Int) := by omega
        have hcell := HC0.out k hlt
        have hys := HL.out k hlt
        have hstep : anyFrom (fun x => x.size == s.size) l q (k + 1) = (anyFrom (fun x => x.size == s.size) l q k || ((l.getD k ByteArray.empty).size == s.size)) := anyFrom_succ (fun x => x.size == s.size) l q k hk1 hlt
        have HE : Hid ((((l.getD k ByteArray.empty).size : Int) == (s.size : Int)) = ((l.getD k ByteArray.empty).size == s.size)) := by
          unfold Hid
          rw [Bool.eq_iff_iff]
          simp only [beq_iff_eq]
          omega
        rw [← HE.out] at hstep
        generalize l.getD k ByteArray.empty = y at *
        cases hb : anyFrom (fun x => x.size == s.size) l q k with
        | true =>
          rw [hb, Bool.true_or] at hstep
          have HS := Lib.hid hstep
          clear hstep hb HE
          go_wp2_with fail
          go_roundw
          case rel => exact ⟨k + 1, by omega, by omega, by rw [HS.out], by go_num, trivial⟩
          case measure => simp [intOf]; omega
        | false =>
          rw [hb, Bool.false_or] at hstep
          have HS := Lib.hid hstep
          clear hstep hb HE
          go_wp2_with fail
          go_roundw
          case rel => exact ⟨k + 1, by omega, by omega, by rw [HS.out], by go_num, trivial⟩
          case measure => simp [intOf]; omega
      · obtain rfl : k = l.length := by omega
        rw [anyFrom_all]
        cases hb : (l.drop q).any (fun x => x.size == s.size) with
        | false =>
          have HV2 : Hid (mayV l (q : Int) s = false) := by unfold Hid; rw [HV.out, hb, Bool.and_false]
          clear hb
          go_wp2_with fail
          go_ret
          exact RetW.mk (by rw [HV2.out]; rfl) HB0.out
        | true =>
          have HV2 : Hid (mayV l (q : Int) s = allTo l q s 128) := by unfold Hid; rw [HV.out, hb, Bool.and_true]
          clear hb
          go_wp2_with fail
          have W1 : Hid (wr = wr) := rfl
          go_loopw [7, 8, 9] (fun v7 _ _ w1 => ∃ i : Nat, i ≤ 128 ∧ v7 = .int .i64 i ∧ Hid (allTo l q s i = true) ∧ w1 = wr) (fun v7 _ _ _ => 200 - (intOf v7).toNat)
          case atStart => exact ⟨0, by omega, rfl, rfl, rfl⟩
          case round =>
            obtain ⟨i, hi, rfl, HA, hww⟩ := hrel
            subst hww
            by_cases hi2 : i < 128
            · have hi3 : (i : Int) < 128 := by omega
              go_wp2_with fail
              go_loopw [8, 9] (fun v8 v9 w1 => ∃ k : Nat, q ≤ k ∧ k ≤ l.length ∧ v8 = .bool (anyFrom (fun x => bat x i == bat s i) l q k) ∧ v9 = .int .i64 k ∧ w1 = wr) (fun _ v9 _ => 20000 - (intOf v9).toNat)
              case atStart => exact ⟨q, Nat.le_refl _, by omega, by rw [anyFrom_zero _ _ _ _ (Nat.le_refl _)], rfl, rfl⟩
              case round =>
                obtain ⟨k, hk1, hk2, rfl, rfl, hww⟩ := hrel
                subst hww
                by_cases hlt : k < l.length
                · have hlt' : (k : Int) < (l.length : Int) := by omega
                  have hcell := HC0.out k hlt
                  have hys := HL.out k hlt
                  have hstep : anyFrom (fun x => bat x i == bat s i) l q (k + 1) = (anyFrom (fun x => bat x i == bat s i) l q k || (bat (l.getD k ByteArray.empty) i == bat s i)) := anyFrom_succ (fun x => bat x i == bat s i) l q k hk1 hlt
                  generalize l.getD k ByteArray.empty = y at *
                  have c1 := fun w => byteR_any y (i : Int) w (by unfold maxLen; omega)
                  have c2 := fun w => byteR_any s (i : Int) w (by unfold maxLen; omega)
                  rw [if_neg (by omega), show ((i : Int)).toNat = i from by omega] at c1 c2
                  change ∀ w, Calls Try.prog 21 #[.string y, .int .i64 i] w fun e w' => e = .returned (.int .u8 ((bat y i).toNat : Int)) ∧ w = w' at c1
                  change ∀ w, Calls Try.prog 21 #[.string s, .int .i64 i] w fun e w' => e = .returned (.int .u8 ((bat s i).toNat : Int)) ∧ w = w' at c2
                  have HE : Hid ((((bat y i).toNat : Int) == ((bat s i).toNat : Int)) = (bat y i == bat s i)) := by
                    unfold Hid
                    rw [Bool.eq_iff_iff]
                    simp only [beq_iff_eq]
                    constructor
                    · intro h; exact UInt8.toNat_inj.1 (by omega)
                    · intro h; rw [h]
                  rw [← HE.out] at hstep
                  generalize ((bat y i).toNat : Int) = u at *
                  generalize ((bat s i).toNat : Int) = v at *
                  have H1 := Lib.hid c1; have H2 := Lib.hid c2
                  clear c1 c2 HE
                  cases hb : anyFrom (fun x => bat x i == bat s i) l q k with
                  | true =>
                    rw [hb, Bool.true_or] at hstep
                    have HS := Lib.hid hstep
                    clear hstep hb
                    go_wp2_with fail
                    go_roundw
                    case rel => exact ⟨k + 1, by omega, by omega, by rw [HS.out], by go_num, trivial⟩
                    case measure => simp [intOf]; omega
                  | false =>
                    rw [hb, Bool.false_or] at hstep
                    have HS := Lib.hid hstep
                    clear hstep hb
                    go_wp2_with fail
                    refine (H1.out _).mono ?_; rintro e w2 ⟨rfl, rfl⟩
                    go_wp2_with fail
                    refine (H2.out _).mono ?_; rintro e w3 ⟨rfl, rfl⟩
                    go_wp2_with fail
                    go_roundw
                    case rel => exact ⟨k + 1, by omega, by omega, by rw [HS.out], by go_num, trivial⟩
                    case measure => simp [intOf]; omega
                · obtain rfl : k = l.length := by omega
                  rw [anyFrom_all]
                  have hst := allTo_succ l q s i
                  have hfal := @allTo_false l q s i 128
                  cases hb : (l.drop q).any (fun x => bat x i == bat s i) with
                  | true =>
                    rw [HA.out, hb] at hst
                    have HA2 := Lib.hid hst
                    clear hst hfal hb
                    go_wp2_with fail
                    go_roundw
                    case rel => exact ⟨i + 1, by omega, by go_num, HA2, trivial⟩
                    case measure => simp [intOf]; omega
                  | false =>
                    have HF := Lib.hid (hfal hb hi2)
                    clear hst hfal hb
                    go_wp2_with fail
                    go_ret
                    exact RetW.mk (by rw [HV2.out, HF.out]; rfl) HB0.out
            · obtain rfl : i = 128 := by omega
              go_wp2_with fail
              go_ret
              exact RetW.mk (by rw [HV2.out, HA.out]; rfl) HB0.out

set_option maxHeartbeats 4000000 in
theorem same_any (B C : Nat) (a b : Option Addr) (l : List ByteArray) (n cap cap' : Nat) (q : Int) (w : World) (h : StrRow B a cap l w) (k : StrRow C b cap' l w) (hn : l.length = n) (hl : l.length ≤ 10000) (hs : ∀ x, x ∈ l → x.size ≤ 10000) :
    Calls Try.prog 26 #[.agg #[.slice a n cap, .int .i64 q], .agg #[.slice b n cap', .int .i64 q]] w (RetW (.bool true) w) := by
  subst hn
  have HL : Hid (∀ j, j < l.length → (l.getD j ByteArray.empty).size ≤ 10000) := by
    intro j hj
    exact hs _ (by simp [List.getD, hj])
  have HA : Hid (∀ j, j < l.length → ∃ g, a = some ⟨g, 0, none⟩ ∧ g < w.heap.size ∧ l.length ≤ cap ∧ w.cell? ⟨g, j, none⟩ = some (.string (l.getD j ByteArray.empty))) := by
    intro j hj
    rcases h with ⟨rfl, rfl, rfl⟩ | ⟨g, rfl, h2, h3, h4, h5, h6⟩
    · exact absurd hj (Nat.not_lt_zero _)
    · exact ⟨g, rfl, h3, h4, h6 j hj⟩
  have HB : Hid (∀ j, j < l.length → ∃ g, b = some ⟨g, 0, none⟩ ∧ g < w.heap.size ∧ l.length ≤ cap' ∧ w.cell? ⟨g, j, none⟩ = some (.string (l.getD j ByteArray.empty))) := by
    intro j hj
    rcases k with ⟨rfl, rfl, rfl⟩ | ⟨g, rfl, h2, h3, h4, h5, h6⟩
    · exact absurd hj (Nat.not_lt_zero _)
    · exact ⟨g, rfl, h3, h4, h6 j hj⟩
  clear h k hs
  go_enter Try.func26, Try.ntmps26
  go_wp2_with fail
  have HB0 : Hid (Below w.heap.size w ((w.alloc (Obj.cells #[Value.slice a l.length cap, Value.int IntKind.i64 q] 40)).alloc (Obj.cells #[Value.slice b l.length cap', Value.int IntKind.i64 q] 40))) := ((Below.refl _ w).alloc (Nat.le_refl _) _).alloc (by simp) _
  have p0 : ((w.alloc (Obj.cells #[Value.slice a l.length cap, Value.int IntKind.i64 q] 40)).alloc (Obj.cells #[Value.slice b l.length cap', Value.int IntKind.i64 q] 40)).cell? ⟨w.heap.size, 0, none⟩ = some (.slice a l.length cap) := by simp
  have p1 : ((w.alloc (Obj.cells #[Value.slice a l.length cap, Value.int IntKind.i64 q] 40)).alloc (Obj.cells #[Value.slice b l.length cap', Value.int IntKind.i64 q] 40)).cell? ⟨w.heap.size + 1, 0, none⟩ = some (.slice b l.length cap') := by simp
  generalize ((w.alloc (Obj.cells #[Value.slice a l.length cap, Value.int IntKind.i64 q] 40)).alloc (Obj.cells #[Value.slice b l.length cap', Value.int IntKind.i64 q] 40)) = W0 at *
  go_loopw [5] (fun v5 wr => ∃ (k : Nat) (n : Nat), k ≤ l.length ∧ v5 = .int .i64 k ∧ wr = W0.drewN n) (fun v5 _ => 20000 - (intOf v5).toNat)
  case atStart => exact ⟨0, 0, by omega, rfl, rfl⟩
  case round =>
    obtain ⟨k, n, hk, rfl, hww⟩ := hrel
    by_cases hlt : k < l.length
    · have hlt' : (k : Int) < (l.length : Int) := by omega
      obtain ⟨g1, ea, g1l, g1c, c1⟩ := HA.out k hlt
      obtain ⟨g2, eb, g2l, g2c, c2⟩ := HB.out k hlt
      have hy := HL.out k hlt
      have d1 : W0.cell? ⟨g1, k, none⟩ = some (.string (l.getD k ByteArray.empty)) := by rw [HB0.out.cell (p := ⟨g1, k, none⟩) g1l]; exact c1
      have d2 : W0.cell? ⟨g2, k, none⟩ = some (.string (l.getD k ByteArray.empty)) := by rw [HB0.out.cell (p := ⟨g2, k, none⟩) g2l]; exact c2
      clear c1 c2 g1l g2l
      generalize l.getD k ByteArray.empty = y at *
      subst hww
      subst ea eb
      go_wp2_with fail
      go_quiet (fail)
      go_wp2_with fail
      go_roundw
      case rel => exact ⟨k + 1, _, by omega, by go_num, rfl⟩
      case measure => simp [intOf]; omega
    · obtain rfl : k = l.length := by omega
      subst hww
      go_wp2_with fail
      go_ret
      exact RetW.mk rfl (below_drewN HB0.out _)
end Go.Proofs.Ytebdnnfaghhpkaa
