/- The walk of ImageDiffers. -/
import Derived.Test.YtincobjgfclfjaaDiffer
namespace Go.Proofs.Ytincobjgfclfjaa
open Go.ChangeShapes Go.WideShapes Go.ChangeAt Go.RowKit

theorem data_one (n : Int) (w : World) : Calls Try.prog 24 #[.int .i64 n, .int .i64 1] w (RetW (.string (dataS n 1)) w) := by
  have h := data_any n 1 w (by omega)
  rw [show ((1 : Nat) : Int) = 1 from rfl] at h
  exact h
theorem dataS_one (n : Int) : (dataS n 1).size = 8 := by rw [dataS_size]
set_option maxRecDepth 100000 in
set_option maxHeartbeats 4000000 in
theorem differ_walk (n m size : Int) (a : Option Addr) (len cap : Nat) (w : World) (ha : ArgRow w a len) (hl : len ≤ maxLen) :
    Calls Try.prog 7 #[.int .i64 n, .int .i64 m, .int .i64 size, .slice a len cap] w (RetW (.bool true) w) := by
  have hl' : (len : Int) ≤ 9223372036854775807 := by unfold maxLen at hl; omega
  go_enter Try.func7, Try.ntmps7
  go_wp2_with fail
  refine (round_some _ _ _ (by omega) (by omega)).mono ?_; rintro e w' ⟨r, hr0, hr1, rfl, rfl⟩
  obtain ⟨κ, rfl⟩ := Int.eq_ofNat_of_zero_le hr0
  go_wp2_with fail
  refine (dimage_any n κ _ (by omega)).mono ?_; rintro e w1 ⟨rfl, hb1⟩
  have hsa := dataS_size n κ
  generalize dataS n κ = A at hsa ⊢
  have hsa' : A.size = κ * 8 := by omega
  go_wp2_with fail
  go_loopw [11, 12] (fun b i wr => ∃ (k : Nat) (B : ByteArray), k ≤ 4 ∧ k ≤ len ∧ i = .int .i64 k ∧ b = .string B ∧ B.size = κ * 8 ∧ Below w.heap.size w wr) (fun _ i _ => 4 - (intOf i).toNat)
  case atStart => exact ⟨0, A, Nat.zero_le _, Nat.zero_le _, rfl, rfl, hsa', hb1⟩
  case round =>
    obtain ⟨k, B, hk4, hkl, rfl, rfl, hB, hbel⟩ := hrel
    by_cases hlt : k < len ∧ k < 4 ∧ 0 < κ
    · obtain ⟨q1, q2, q3⟩ := hlt
      obtain ⟨bb, o, z, rfl, hbb, hcell⟩ := ha.at hbel k q1
      have c1 : (k : Int) < (len : Int) := by omega
      have c2 : (k : Int) < 4 := by omega
      have c3 : (0 : Int) < (κ : Int) := by omega
      have HB : Hid (B.size ≤ maxLen) := by show _ ≤ maxLen; unfold maxLen; omega
      have HK := Lib.hid q2
      have HL := Lib.hid q1
      go_wp2_with fail
      refine (round_some _ _ _ (by omega) (by omega)).mono ?_; rintro e w' ⟨s, hs0, hs1, rfl, rfl⟩
      obtain ⟨σ, rfl⟩ := Int.eq_ofNat_of_zero_le hs0
      go_wp2_with fail
      generalize wrap64 (m + (k : Int)) = M
      refine (data_one _ _).mono ?_; rintro e w2 ⟨rfl, hb2⟩
      have hsd := dataS_one M
      generalize dataS M 1 = D at hsd ⊢
      have HD : Hid (D.size ≤ maxLen) := by show _ ≤ maxLen; unfold maxLen; omega
      obtain ⟨c', e1, e2, _, _⟩ := put_sec (c := B) (D := D) hB (by omega) (by omega : σ < κ) (by omega)
      go_wp2_with fail
      refine (rwrite_any _ _ _ _ HB.out HD.out).mono ?_; rintro e w3 ⟨rfl, hb3⟩
      rw [e1]
      have hbel' : Below w.heap.size w w3 := by
        have h := hbel.trans (hb2.mono hbel.size)
        exact h.trans (hb3.mono h.size)
      clear hsd hb2 hb3 e1
      go_wp2_with fail
      go_roundw
      case rel => exact ⟨k + 1, c', HK.out, HL.out, by go_num, rfl, e2, hbel'⟩
      case measure => have := HK.out; simp [intOf]; omega
    · have hx : (¬ k < len) ∨ (k < len ∧ ¬ k < 4) ∨ (k < len ∧ k < 4 ∧ κ = 0) := by omega
      have HA : Hid (A.size ≤ maxLen) := by show _ ≤ maxLen; unfold maxLen; omega
      have HB : Hid (B.size ≤ maxLen) := by show _ ≤ maxLen; unfold maxLen; omega
      have hdif : difS A B = difL A B κ := by
        unfold difS; rw [if_pos ⟨imB_of hsa' (by omega), imB_of hB (by omega), by omega⟩]
        congr 1; omega
      have hdaa : difS A A = [] := by
        unfold difS; rw [if_pos ⟨imB_of hsa' (by omega), imB_of hsa' (by omega), rfl⟩]
        rw [difN_map, difN_self]; rfl
      have hll := difL_le A B κ
      have HDIF := Lib.hid hdif
      have HDAA := Lib.hid hdaa
      have HSA := Lib.hid hsa'
      have HSB := Lib.hid hB
      have HK8 := Lib.hid hr1
      have HXX := Lib.hid hll
      have hk4' : (k : Int) ≤ 4 := by omega
      clear hlt hdif hdaa hsa hsa' hB hr0 hk4 hb1
      have hx' : ((len : Int) ≤ (k : Int)) ∨ ((k : Int) < (len : Int) ∧ (4 : Int) ≤ (k : Int)) ∨ ((k : Int) < (len : Int) ∧ (k : Int) < 4 ∧ (κ : Int) ≤ 0) := by omega
      clear hx hkl
      rcases hx' with hx | ⟨hx, hx2⟩ | ⟨hx, hx2, hx3⟩
      all_goals
        go_wp2_with fail
        refine (diff_any A B _ HA.out HB.out).mono ?_; rintro e w7 ⟨v7, rfl, hb7, hown7⟩
        rw [HDIF.out] at hown7
        go_wp2_with fail
        have hnl : (difL A B κ).length = (difN A B κ).length := by rw [difN_map, List.length_map]
        have HNL := Lib.hid hnl
        obtain ⟨a1, c1, rfl⟩ := own_slice hown7
        have HOWN := Lib.hid hown7
        clear hown7 hnl hll
        have hjj : (difL A B κ).length ≤ 1000 := by have := HXX.out; omega
        go_loopw [14, 15] (fun c i wr => ∃ (j : Nat) (C : ByteArray), j ≤ (difL A B κ).length ∧ i = .int .i64 j ∧ c = .string C ∧ CInv A B κ j C ∧ Below w7.heap.size w7 wr) (fun _ i _ => (difL A B κ).length - (intOf i).toNat)
        case atStart => exact ⟨0, A, Nat.zero_le _, rfl, rfl, CInv.start HSA.out, Below.refl _ _⟩
        case round =>
          obtain ⟨j, C, hjl, rfl, rfl, hinv, hbw⟩ := hrel
          by_cases hlt : j < (difL A B κ).length
          · have hown := own_below HOWN.out hbw (Nat.le_refl _)
            obtain ⟨g, rfl, e1⟩ := own_cell hown j hlt
            have hgl : g < wr.heap.size := World.block_lt_of_cell? _ _ e1
            have hlt' : j < (difN A B κ).length := by rw [← HNL.out]; exact hlt
            rw [difN_getD _ _ _ _ hlt'] at e1
            have hσ := difN_lt A B κ j hlt'
            obtain ⟨C', p1, p2⟩ := hinv.step (by have := HK8.out; omega) HSB.out hlt'
            have hrd := sec_read (a := B) (k := (difN A B κ).getD j 0) (by have := HSB.out; omega) (imB_of HSB.out (by have := HK8.out; omega))
            have hsz : (sec B ((difN A B κ).getD j 0)).size = 8 := by unfold sec; rw [size_extract' _ _ _ (by have := HSB.out; omega)]; omega
            change readS B (((difN A B κ).getD j 0 : Nat) : Int) 1 = (sec B ((difN A B κ).getD j 0), true) at hrd
            have HSEC : Hid ((sec B ((difN A B κ).getD j 0)).size ≤ maxLen) := by show _ ≤ maxLen; unfold maxLen; omega
            have HC : Hid (C.size ≤ maxLen) := by have := hinv.size; show _ ≤ maxLen; have := HK8.out; unfold maxLen; omega
            have c1' : (j : Int) < ((difL A B κ).length : Int) := by omega
            have c2' : (j : Int) ≤ 1000 := by omega
            have HLT := Lib.hid hlt
            rcases Nat.eq_zero_or_pos j with hj0 | hj0
            · subst hj0
              generalize sec B ((difN A B κ).getD 0 0) = S at hsz hrd p1 HSEC
              generalize (difN A B κ).getD 0 0 = σ at e1 hσ p1 hrd
              have P1 := Lib.hid p1; have P2 := Lib.hid p2; have HRD := Lib.hid hrd
              clear hown hlt hlt' p1 p2 hrd hsz hinv hjl hσ
              go_wp2_with fail
              refine (rread_any _ _ _ _ HB.out).mono ?_; rintro e w' ⟨rfl, rfl⟩
              rw [HRD.out]
              go_wp2_with fail
              go_quiet (fail)
              go_wp2_with fail
              refine (rwrite_any _ _ _ _ HC.out HSEC.out).mono ?_; rintro e w3 ⟨rfl, hb3⟩
              rw [P1.out]
              have hbw' : Below w7.heap.size w7 w3 := (below_drewN hbw _).trans (hb3.mono (below_drewN hbw _).size)
              clear hb3
              go_wp2_with fail
              go_roundw
              case rel => exact ⟨1, C', HLT.out, by go_num, rfl, P2.out, hbw'⟩
              case measure => have := HLT.out; simp [intOf]; omega
            · obtain ⟨i', rfl⟩ : ∃ i', j = i' + 1 := ⟨j - 1, by omega⟩
              obtain ⟨g2, hg2, e0⟩ := own_cell hown i' (by omega)
              obtain rfl : g = g2 := by simp at hg2 <;> assumption
              rw [difN_getD _ _ _ _ (by omega)] at e0
              have hup := difN_up A B κ i' hlt'
              have hup' : (((difN A B κ).getD i' 0 : Nat) : Int) < (((difN A B κ).getD (i' + 1) 0 : Nat) : Int) := by omega
              generalize sec B ((difN A B κ).getD (i' + 1) 0) = S at hsz hrd p1 HSEC
              generalize (difN A B κ).getD (i' + 1) 0 = σ at e1 hσ p1 hrd hup'
              generalize (difN A B κ).getD i' 0 = τ at e0 hup'
              have P1 := Lib.hid p1; have P2 := Lib.hid p2; have HRD := Lib.hid hrd
              clear hown hlt hlt' p1 p2 hrd hsz hinv hjl hj0 hσ hup hg2
              go_wp2_with fail
              refine (rread_any _ _ _ _ HB.out).mono ?_; rintro e w' ⟨rfl, rfl⟩
              rw [HRD.out]
              go_wp2_with fail
              go_quiet (fail)
              go_wp2_with fail
              refine (rwrite_any _ _ _ _ HC.out HSEC.out).mono ?_; rintro e w3 ⟨rfl, hb3⟩
              rw [P1.out]
              have hbw' : Below w7.heap.size w7 w3 := (below_drewN hbw _).trans (hb3.mono (below_drewN hbw _).size)
              clear hb3
              go_wp2_with fail
              go_roundw
              case rel => exact ⟨i' + 1 + 1, C', HLT.out, by go_num, rfl, P2.out, hbw'⟩
              case measure => have := HLT.out; simp [intOf]; omega
          · obtain rfl : j = (difL A B κ).length := by omega
            have hcb : C = B := by rw [HNL.out] at hinv; exact hinv.done HSB.out
            subst hcb
            clear hinv hlt hjl
            go_wp2_with fail
            refine (diff_any A A _ HA.out HA.out).mono ?_; rintro e w8 ⟨v8, rfl, hb8, hown8⟩
            rw [HDAA.out] at hown8
            obtain ⟨a2, c2, rfl⟩ := own_slice hown8
            clear hown8
            go_wp2_with fail
            refine (awake_any _).mono ?_; rintro e w9 ⟨rfl, hb9⟩
            go_wp2_with fail
            go_ret
            refine RetW.mk (by first | rfl | simp) ?_
            have h := hbel.trans (hb7.mono hbel.size)
            replace h := h.trans (hbw.mono h.size)
            replace h := h.trans (hb8.mono h.size)
            exact h.trans (hb9.mono h.size)
end Go.Proofs.Ytincobjgfclfjaa
