/- The sectors that a range touches and covers: the program's answer and the document's. -/
import Derived.Test.YthimcidkmnobnaaBase
import Derived.LoopTactic
namespace Go.Proofs.Ythimcidkmnobnaa
open Go.ChangeShapes Go.WideShapes Go.ChangeAt Go.RowKit

def tA (off n : Int) : Bool := decide (0 < n ∧ off < 8)
def tB (off n : Int) : Bool := decide (0 < n ∧ 8 < off + n)
def cA (off n : Int) : Bool := decide (off ≤ 0 ∧ 8 ≤ off + n)
def cB (off n : Int) : Bool := decide (off ≤ 8 ∧ 16 ≤ off + n)

theorem or1 (a : Bool) : bits .or .i64 (sb a false) 2 = sb a true := by cases a <;> decide
theorem or0 : bits .or .i64 0 1 = sb true false := by decide

set_option maxHeartbeats 2000000 in
theorem touched_any (off n : Int) (w : World) (h0 : 0 ≤ off) (h1 : 0 ≤ n) (h2 : off + n ≤ 16) :
    Calls Try.prog 34 #[.int .i64 off, .int .i64 n] w fun e w' => e = .returned (.int .i64 (sb (tA off n) (tB off n))) ∧ w = w' := by
  have HA : Hid (tA off n = decide (0 < n ∧ off < 8)) := rfl
  have HB : Hid (tB off n = decide (0 < n ∧ 8 < off + n)) := rfl
  generalize tA off n = x at HA
  generalize tB off n = y at HB
  go_enter Try.func34, Try.ntmps34
  go_wp2_with fail
  go_loop [5, 7] (fun out i => ∃ k o, i = .int .i64 k ∧ out = .int .i64 o ∧ ((k = 0 ∧ o = 0) ∨ (k = 1 ∧ o = sb x false) ∨ (k = 2 ∧ o = sb x y))) (fun _ i => (2 - intOf i).toNat)
  case atStart => exact ⟨0, 0, rfl, rfl, Or.inl ⟨rfl, rfl⟩⟩
  case round =>
    obtain ⟨k, o, rfl, rfl, hk⟩ := hrel
    rcases hk with ⟨rfl, rfl⟩ | ⟨rfl, rfl⟩ | ⟨rfl, rfl⟩
    · have h8 : max off (0 * 8) = off := by omega
      by_cases hc : max off 0 < min (off + n) 8
      · have hx : x = true := by rw [HA.out]; simp; omega
        have HX := Lib.hid hx; clear hx
        go_wp2_with fail
        go_round
        case rel => exact ⟨1, _, rfl, rfl, Or.inr (Or.inl ⟨rfl, by rw [HX.out]; exact or0⟩)⟩
        case measure => simp [intOf]
      · have hx : x = false := by rw [HA.out]; simp; omega
        have HX := Lib.hid hx; clear hx
        go_wp2_with fail
        go_round
        case rel => exact ⟨1, _, rfl, rfl, Or.inr (Or.inl ⟨rfl, by rw [HX.out]; rfl⟩)⟩
        case measure => simp [intOf]
    · by_cases hc : max off 8 < min (off + n) 16
      · have hx : y = true := by rw [HB.out]; simp; omega
        have HX := Lib.hid hx; clear hx
        go_wp2_with fail
        go_round
        case rel => exact ⟨2, _, rfl, rfl, Or.inr (Or.inr ⟨rfl, by rw [HX.out]; exact or1 x⟩)⟩
        case measure => simp [intOf]
      · have hx : y = false := by rw [HB.out]; simp; omega
        have HX := Lib.hid hx; clear hx
        go_wp2_with fail
        go_round
        case rel => exact ⟨2, _, rfl, rfl, Or.inr (Or.inr ⟨rfl, by rw [HX.out]⟩)⟩
        case measure => simp [intOf]
    · go_wp2_with fail
      go_ret
      exact ⟨rfl, rfl⟩

set_option maxHeartbeats 2000000 in
theorem covered_any (off n : Int) (w : World) (h0 : 0 ≤ off) (h1 : 0 ≤ n) (h2 : off + n ≤ 16) :
    Calls Try.prog 35 #[.int .i64 off, .int .i64 n] w fun e w' => e = .returned (.int .i64 (sb (cA off n) (cB off n))) ∧ w = w' := by
  have HA : Hid (cA off n = decide (off ≤ 0 ∧ 8 ≤ off + n)) := rfl
  have HB : Hid (cB off n = decide (off ≤ 8 ∧ 16 ≤ off + n)) := rfl
  generalize cA off n = x at HA
  generalize cB off n = y at HB
  go_enter Try.func35, Try.ntmps35
  go_wp2_with fail
  go_loop [5, 7] (fun out i => ∃ k o, i = .int .i64 k ∧ out = .int .i64 o ∧ ((k = 0 ∧ o = 0) ∨ (k = 1 ∧ o = sb x false) ∨ (k = 2 ∧ o = sb x y))) (fun _ i => (2 - intOf i).toNat)
  case atStart => exact ⟨0, 0, rfl, rfl, Or.inl ⟨rfl, rfl⟩⟩
  case round =>
    obtain ⟨k, o, rfl, rfl, hk⟩ := hrel
    rcases hk with ⟨rfl, rfl⟩ | ⟨rfl, rfl⟩ | ⟨rfl, rfl⟩
    · by_cases hc : off ≤ 0 ∧ 8 ≤ off + n
      · have hx : x = true := by rw [HA.out]; simp; omega
        obtain ⟨c1, c2⟩ := hc
        have HX := Lib.hid hx; clear hx
        go_wp2_with fail
        go_round
        case rel => exact ⟨1, _, rfl, rfl, Or.inr (Or.inl ⟨rfl, by rw [HX.out]; exact or0⟩)⟩
        case measure => simp [intOf]
      · have hx : x = false := by rw [HA.out]; simp; omega
        have HX := Lib.hid hx; clear hx
        go_wp2_with fail
        all_goals
          first | (exfalso; omega) | skip
          go_round
          case rel => exact ⟨1, _, rfl, rfl, Or.inr (Or.inl ⟨rfl, by rw [HX.out]; rfl⟩)⟩
          case measure => simp [intOf]
    · by_cases hc : off ≤ 8 ∧ 16 ≤ off + n
      · have hx : y = true := by rw [HB.out]; simp; omega
        obtain ⟨c1, c2⟩ := hc
        have HX := Lib.hid hx; clear hx
        go_wp2_with fail
        go_round
        case rel => exact ⟨2, _, rfl, rfl, Or.inr (Or.inr ⟨rfl, by rw [HX.out]; exact or1 x⟩)⟩
        case measure => simp [intOf]
      · have hx : y = false := by rw [HB.out]; simp; omega
        have HX := Lib.hid hx; clear hx
        go_wp2_with fail
        all_goals
          first | (exfalso; omega) | skip
          go_round
          case rel => exact ⟨2, _, rfl, rfl, Or.inr (Or.inr ⟨rfl, by rw [HX.out]⟩)⟩
          case measure => simp [intOf]
    · go_wp2_with fail
      go_ret
      exact ⟨rfl, rfl⟩

theorem ranged_any (off n : Int) (w : World) (hw : -9223372036854775808 ≤ off) (hw2 : off ≤ 9223372036854775807) :
    Calls Try.prog 36 #[.int .i64 off, .int .i64 n] w fun e w' => e = .returned (.bool (decide (0 ≤ off ∧ 0 ≤ n ∧ off ≤ 16 ∧ n ≤ 16 - off))) ∧ w = w' := by
  go_enter Try.func36, Try.ntmps36
  go_wp2_with fail
  all_goals
    go_ret
    refine ⟨?_, rfl⟩
    congr 2
    simp [*]
    try omega

/-- how many places from lo on and ahead of i the range has -/
def cnt (off n lo i : Int) : Int := max 0 (min i (off + n) - max lo off)
theorem cnt_in {off n lo i : Int} (h0 : off ≤ i) (h1 : i < off + n) (h2 : lo ≤ i) : cnt off n lo i + 1 = cnt off n lo (i + 1) := by unfold cnt; omega
theorem cnt_out {off n lo i : Int} (h : ¬ (off ≤ i ∧ i < off + n)) (h2 : lo ≤ i) : cnt off n lo i = cnt off n lo (i + 1) := by unfold cnt; omega
theorem cnt_bd {off n lo i : Int} (h2 : lo ≤ i) (h3 : i ≤ lo + 8) : 0 ≤ cnt off n lo i ∧ cnt off n lo i ≤ 8 := by unfold cnt; omega
theorem or_t (a : Bool) : bits .or .i64 (sb a false) 2 = sb a true := or1 a
set_option maxHeartbeats 4000000 in
theorem touchedR_any (off n : Int) (w : World) (h0 : 0 ≤ off) (h1 : 0 ≤ n) (h2 : off + n ≤ 16) :
    Calls Try.prog 37 #[.int .i64 off, .int .i64 n] w fun e w' => e = .returned (.tuple #[.int .i64 (sb (tA off n) (tB off n)), .int .i64 (sb (cA off n) (cB off n))]) ∧ w = w' := by
  have HA : Hid (tA off n = decide (0 < cnt off n 0 8)) := by unfold Hid tA cnt; congr 1; apply propext; omega
  have HB : Hid (tB off n = decide (0 < cnt off n 8 16)) := by unfold Hid tB cnt; congr 1; apply propext; omega
  have HC : Hid (cA off n = decide (cnt off n 0 8 = 8)) := by unfold Hid cA cnt; congr 1; apply propext; omega
  have HD : Hid (cB off n = decide (cnt off n 8 16 = 8)) := by unfold Hid cB cnt; congr 1; apply propext; omega
  generalize tA off n = x at HA
  generalize tB off n = y at HB
  generalize cA off n = p at HC
  generalize cB off n = q at HD
  go_enter Try.func37, Try.ntmps37
  go_wp2_with fail
  go_loop [6, 7, 8] (fun t c i => ∃ k a b, i = .int .i64 k ∧ t = .int .i64 a ∧ c = .int .i64 b ∧ ((k = 0 ∧ a = 0 ∧ b = 0) ∨ (k = 1 ∧ a = sb x false ∧ b = sb p false) ∨ (k = 2 ∧ a = sb x y ∧ b = sb p q))) (fun _ _ i => (2 - intOf i).toNat)
  case atStart => exact ⟨0, 0, 0, rfl, rfl, rfl, Or.inl ⟨rfl, rfl, rfl⟩⟩
  case round =>
    obtain ⟨k, ta, ca, rfl, rfl, rfl, hk⟩ := hrel
    rcases hk with ⟨rfl, rfl, rfl⟩ | ⟨rfl, rfl, rfl⟩ | ⟨rfl, rfl, rfl⟩
    · go_wp2_with fail
      go_loop [9, 10] (fun c i => ∃ j : Int, 0 ≤ j ∧ j ≤ 8 ∧ i = .int .i64 j ∧ c = .int .i64 (cnt off n 0 j)) (fun _ i => (8 - intOf i).toNat)
      case atStart => exact ⟨0, by omega, by omega, rfl, by congr 1; unfold cnt; omega⟩
      case round =>
        obtain ⟨j, hj0, hj1, rfl, rfl⟩ := hrel
        have hb := cnt_bd (off := off) (n := n) (lo := 0) (i := j) (by omega) (by omega)
        by_cases hlt : j < 8
        · by_cases hc : off ≤ j ∧ j < off + n
          · have HX := Lib.hid (cnt_in (lo := 0) hc.1 hc.2 (by omega))
            obtain ⟨hc1, hc2⟩ := hc
            go_wp2_with fail
            go_round
            case rel => exact ⟨j + 1, by omega, by omega, rfl, by rw [← HX.out]⟩
            case measure => simp [intOf]; omega
          · have HX := Lib.hid (cnt_out (lo := 0) hc (by omega))
            go_wp2_with fail
            all_goals
              first | (exfalso; omega) | skip
              go_round
              case rel => exact ⟨j + 1, by omega, by omega, rfl, by rw [← HX.out]⟩
              case measure => simp [intOf]; omega
        · obtain rfl : j = 8 := by omega
          generalize cnt off n 0 8 = cc at *
          by_cases hc1 : 0 < cc <;> by_cases hc2 : cc = 8
          · have HX : Hid (x = true ∧ p = true) := by rw [HA.out, HC.out]; exact ⟨by simpa using hc1, by simpa using hc2⟩
            subst hc2
            go_wp2_with fail
            go_round
            case rel => exact ⟨1, _, _, rfl, rfl, rfl, Or.inr (Or.inl ⟨rfl, by rw [HX.out.1]; exact or0, by rw [HX.out.2]; exact or0⟩)⟩
            case measure => simp [intOf]
          · have HX : Hid (x = true ∧ p = false) := by rw [HA.out, HC.out]; exact ⟨by simpa using hc1, by simpa using hc2⟩
            go_wp2_with fail
            go_round
            case rel => exact ⟨1, _, _, rfl, rfl, rfl, Or.inr (Or.inl ⟨rfl, by rw [HX.out.1]; exact or0, by rw [HX.out.2]; rfl⟩)⟩
            case measure => simp [intOf]
          · omega
          · have HX : Hid (x = false ∧ p = false) := by rw [HA.out, HC.out]; exact ⟨by simpa using hc1, by simpa using hc2⟩
            go_wp2_with fail
            go_round
            case rel => exact ⟨1, _, _, rfl, rfl, rfl, Or.inr (Or.inl ⟨rfl, by rw [HX.out.1]; rfl, by rw [HX.out.2]; rfl⟩)⟩
            case measure => simp [intOf]
    · go_wp2_with fail
      go_loop [9, 10] (fun c i => ∃ j : Int, 8 ≤ j ∧ j ≤ 16 ∧ i = .int .i64 j ∧ c = .int .i64 (cnt off n 8 j)) (fun _ i => (16 - intOf i).toNat)
      case atStart => exact ⟨8, by omega, by omega, rfl, by congr 1; unfold cnt; omega⟩
      case round =>
        obtain ⟨j, hj0, hj1, rfl, rfl⟩ := hrel
        have hb := cnt_bd (off := off) (n := n) (lo := 8) (i := j) (by omega) (by omega)
        by_cases hlt : j < 16
        · by_cases hc : off ≤ j ∧ j < off + n
          · have HX := Lib.hid (cnt_in (lo := 8) hc.1 hc.2 (by omega))
            obtain ⟨hc1, hc2⟩ := hc
            go_wp2_with fail
            go_round
            case rel => exact ⟨j + 1, by omega, by omega, rfl, by rw [← HX.out]⟩
            case measure => simp [intOf]; omega
          · have HX := Lib.hid (cnt_out (lo := 8) hc (by omega))
            go_wp2_with fail
            all_goals
              first | (exfalso; omega) | skip
              go_round
              case rel => exact ⟨j + 1, by omega, by omega, rfl, by rw [← HX.out]⟩
              case measure => simp [intOf]; omega
        · obtain rfl : j = 16 := by omega
          generalize cnt off n 8 16 = cc at *
          by_cases hc1 : 0 < cc <;> by_cases hc2 : cc = 8
          · have HX : Hid (y = true ∧ q = true) := by rw [HB.out, HD.out]; exact ⟨by simpa using hc1, by simpa using hc2⟩
            subst hc2
            go_wp2_with fail
            go_round
            case rel => exact ⟨2, _, _, rfl, rfl, rfl, Or.inr (Or.inr ⟨rfl, by rw [HX.out.1]; exact or1 _, by rw [HX.out.2]; exact or1 _⟩)⟩
            case measure => simp [intOf]
          · have HX : Hid (y = true ∧ q = false) := by rw [HB.out, HD.out]; exact ⟨by simpa using hc1, by simpa using hc2⟩
            go_wp2_with fail
            go_round
            case rel => exact ⟨2, _, _, rfl, rfl, rfl, Or.inr (Or.inr ⟨rfl, by rw [HX.out.1]; exact or1 _, by rw [HX.out.2]⟩)⟩
            case measure => simp [intOf]
          · omega
          · have HX : Hid (y = false ∧ q = false) := by rw [HB.out, HD.out]; exact ⟨by simpa using hc1, by simpa using hc2⟩
            go_wp2_with fail
            go_round
            case rel => exact ⟨2, _, _, rfl, rfl, rfl, Or.inr (Or.inr ⟨rfl, by rw [HX.out.1], by rw [HX.out.2]⟩)⟩
            case measure => simp [intOf]
    · go_wp2_with fail
      go_ret2
      exact ⟨rfl, rfl⟩
end Go.Proofs.Ythimcidkmnobnaa
