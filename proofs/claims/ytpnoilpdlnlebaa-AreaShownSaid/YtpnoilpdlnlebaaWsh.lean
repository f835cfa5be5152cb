/- The walk of AreaShown. -/
import Derived.Test.YtpnoilpdlnlebaaSp
namespace Go.Proofs.Ytpnoilpdlnlebaa
open Go.ChangeShapes Go.WideShapes Go.ChangeAt Go.RowKit

set_option maxRecDepth 100000 in
set_option maxHeartbeats 16000000 in
theorem shown_walk (a0 : Option Addr) (len0 cap0 : Nat) (a1 a2 : Int) (w : World) (ha : ArgRow w a0 len0) (hl : len0 ≤ maxLen) :
    Calls Try.prog 5 #[.slice a0 len0 cap0, .int .i64 a1, .int .i64 a2] w (RetW (.bool true) w) := by
  have HT : Hid (TP w w.heap.size a0 len0 cap0 (w.alloc (.cells #[.slice a0 len0 cap0, .int .i64 0] 25))) := tape_start w a0 len0 cap0 ha hl
  go_enter Try.func5, Try.ntmps5
  go_wp2_with fail
  have HK : Hid (Below w.heap.size w (w.alloc (.cells #[.slice a0 len0 cap0, .int .i64 0] 25))) := (Below.refl w.heap.size w).alloc (Nat.le_refl _) _
  generalize w.alloc (.cells #[.slice a0 len0 cap0, .int .i64 0] 25) = w1 at *
  refine (areas_any _ _ _ _ _ _ HT.out).mono ?_
  rintro e w2 ⟨b, c, l, rfl, hc, hl5, hr, hk, tp⟩
  have HB := Lib.hid (tp.bel)
  have HR := Lib.hid hr
  clear HT HK hk tp
  have HSH : Hid (∀ f p, 0 ≤ p → p ≤ 1000 → ∀ W, Below w2.heap.size w2 W → Calls Try.prog 18 #[.slice b l.length c, .int .i64 f, .int .i64 p] W fun e w' => ∃ b c, e = .returned (.slice b (shownV l f p).length c) ∧ IRow W.heap.size b c (shownV l f p) w' ∧ Below W.heap.size W w') := fun f p h1 h2 W hb => shown_any _ b l c f p W (HR.out.below hb) (by omega) (by omega) (by omega)
  have HS : Hid (∀ p, 0 ≤ p → p ≤ 1000 → ∀ W, Below w2.heap.size w2 W → Calls Try.prog 25 #[.slice b l.length c, .int .i64 p] W (RetW (.tuple #[.int .i64 (optA (findV l p)).fi, .int .i64 ((optA (findV l p)).pg + p - (optA (findV l p)).st), .bool (optA (findV l p)).wr, .bool (findV l p).isSome]) W)) := fun p h1 h2 W hb => shows_any _ b l c p W (HR.out.below hb) (by omega) h1 h2
  have HC := Lib.hid hc
  clear HR hc hl5
  go_wp2_with fail
  refine (cut_any _ _ _ (by omega) (by omega)).mono ?_; rintro e w3 ⟨rfl, rfl⟩
  go_wp2_with fail
  refine (cut_any _ _ _ (by omega) (by omega)).mono ?_; rintro e w3 ⟨rfl, rfl⟩
  have hp0 := rnd_lo a2 8 (by omega)
  have hp1 := rnd_hi a2 8 (by omega)
  generalize rnd a1 4 = f at *
  generalize rnd a2 8 = p at *
  go_wp2_with fail
  refine (HSH.out f p hp0 (by omega) _ (Below.refl _ _)).mono ?_; rintro e w3 ⟨b2, c2, rfl, hr, hb⟩
  have HB2 := Lib.hid hb
  have HLN := Lib.hid (shown_len f p HC.out)
  have hcnt := fun k hk hh => shown_at (k := k) HC.out hk hh (f := f) (p := p)
  have HCN := Lib.hid hcnt
  have HRR : Hid (∀ W, Below w3.heap.size w3 W → ∀ j, j < (shownV l f p).length → ∃ g, b2 = some ⟨g, 0, none⟩ ∧ ((shownV l f p).length : Int) ≤ c2 ∧ W.cell? ⟨g, j, none⟩ = some (.int .i64 ((shownV l f p).getD j 0))) := by
    intro W hW j hj
    rcases hr.below hW with ⟨_, h2, _⟩ | ⟨g, h1, _, _, h4, _, h6⟩
    · rw [h2] at hj; exact absurd hj (Nat.not_lt_zero _)
    · exact ⟨g, h1, by omega, h6 j hj⟩
  clear hr hb hcnt HSH HC
  have hsl : (shownV l f p).length ≤ 64 := by
    rw [HLN.out]; unfold cntTo
    exact Nat.le_trans (List.length_filter_le _ _) (by simp)
  generalize (shownV l f p).length = n at *
  obtain ⟨fv, hfv⟩ : ∃ fv : Nat → Int, fv = fun j => (shownV l f p).getD j 0 := ⟨_, rfl⟩
  replace HRR : Hid (∀ W, Below w3.heap.size w3 W → ∀ j, j < n → ∃ g, b2 = some ⟨g, 0, none⟩ ∧ (n : Int) ≤ c2 ∧ W.cell? ⟨g, j, none⟩ = some (.int .i64 (fv j))) := by rw [hfv]; exact HRR.out
  replace HCN : Hid (∀ k, k < 64 → hitP l f p k = true → cntTo l f p k < n ∧ fv (cntTo l f p k) = k) := by rw [hfv]; exact HCN.out
  clear hfv
  go_wp2_with fail
  go_loopw [11, 12] (fun v11 v12 wr => ∃ k : Nat, k ≤ 64 ∧ v12 = .int .i64 k ∧ v11 = .int .i64 (cntTo l f p k) ∧ Hid (Below w3.heap.size w3 wr)) (fun _ v12 _ => 100 - (intOf v12).toNat)
  case atStart => exact ⟨0, by omega, rfl, rfl, Below.refl _ _⟩
  case round =>
    obtain ⟨k, hk, rfl, rfl, HW⟩ := hrel
    have hcs := cntTo_succ l f p k
    have hcl : cntTo l f p k ≤ 64 := Nat.le_trans (List.length_filter_le _ _) (by simp; omega)
    by_cases hlt : k < 64
    · have hlt' : (k : Int) < 64 := by omega
      go_wp2_with fail
      refine (HS.out k (by omega) (by omega) _ (HB2.out.trans (HW.out.mono HB2.out.size))).mono ?_; rintro e w4 ⟨rfl, hb⟩
      replace HW := Lib.hid (HW.out.trans (hb.mono HW.out.size))
      have hcn := HCN.out k hlt
      unfold hitP at hcs hcn
      clear hb HS HCN HLN
      generalize (optA (findV l k)).fi = F at *
      generalize (optA (findV l k)).pg + (k : Int) - (optA (findV l k)).st = Q at *
      generalize (findV l k).isSome = OK at *
      generalize cntTo l f p k = m at *
      have hwm : IntKind.i64.wrap ((m : Int) + 1) = (m : Int) + 1 := IntWalk.i64_in _ (by omega)
      cases OK with
      | false =>
        rw [Bool.false_and, if_neg (by simp)] at hcs
        have HCS := Lib.hid hcs
        clear hcs hcn
        go_wp2_with fail
        go_roundw
        case rel => exact ⟨k + 1, by omega, by go_num, by rw [HCS.out]; go_num, HW⟩
        case measure => simp [intOf]; omega
      | true =>
        rw [Bool.true_and] at hcs hcn
        by_cases hF : F = f
        · by_cases hQ : Q = p
          · subst hF; subst hQ
            rw [if_pos (by simp)] at hcs
            obtain ⟨hm, hv⟩ := hcn (by simp)
            obtain ⟨g, rfl, hcap, hcell⟩ := HRR.out _ HW.out m hm
            rw [hv] at hcell
            have HCS := Lib.hid hcs
            have hm' : (m : Int) < (n : Int) := by omega
            clear hcs hcn HRR hv
            go_wp2_with fail
            go_roundw
            case rel => exact ⟨k + 1, by omega, by go_num, by rw [HCS.out]; go_num, HW⟩
            case measure => simp [intOf]; omega
          · rw [if_neg (by simp [hQ])] at hcs
            have HCS := Lib.hid hcs
            clear hcs hcn
            go_wp2_with fail
            go_roundw
            case rel => exact ⟨k + 1, by omega, by go_num, by rw [HCS.out]; go_num, HW⟩
            case measure => simp [intOf]; omega
        · rw [if_neg (by simp [hF])] at hcs
          have HCS := Lib.hid hcs
          clear hcs hcn
          go_wp2_with fail
          go_roundw
          case rel => exact ⟨k + 1, by omega, by go_num, by rw [HCS.out]; go_num, HW⟩
          case measure => simp [intOf]; omega
    · obtain rfl : k = 64 := by omega
      rw [← HLN.out]
      go_wp2_with fail
      refine (awake_any _).mono ?_; rintro e w5 ⟨rfl, hb⟩
      go_wp2_with fail
      go_ret
      have h1 := HB.out.size
      have h2 := HB2.out.size
      have h3 := HW.out.size
      exact ⟨rfl, HB.out.trans ((HB2.out.mono h1).trans ((HW.out.mono (by omega)).trans (hb.mono (by omega))))⟩
end Go.Proofs.Ytpnoilpdlnlebaa
