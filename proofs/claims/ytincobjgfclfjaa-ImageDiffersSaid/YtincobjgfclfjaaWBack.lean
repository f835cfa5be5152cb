/- ImageBack: the plain law and the walk. -/
import Derived.Test.YtincobjgfclfjaaPlain
import Derived.Test.YtincobjgfclfjaaAwake
namespace Go.Proofs.Ytincobjgfclfjaa
open Go.ChangeShapes Go.WideShapes Go.ChangeAt Go.RowKit

theorem sec_left {X Z : List UInt8} {i : Nat} (h : i + 8 ≤ X.length) : ((X ++ Z).drop i).take 8 = (X.drop i).take 8 := by
  rw [List.drop_append_of_le_length (by omega), List.take_append_of_le_length (by simp; omega)]
theorem sec_right {X O O' Y : List UInt8} {i : Nat} (h : X.length + O.length ≤ i) (hl : O.length = O'.length) : ((X ++ (O ++ Y)).drop i).take 8 = ((X ++ (O' ++ Y)).drop i).take 8 := by
  rw [List.drop_append, List.drop_of_length_le (by omega), List.nil_append, List.drop_append, List.drop_of_length_le (by omega), List.nil_append]
  rw [List.drop_append (l₁ := X), List.drop_of_length_le (l := X) (by omega), List.nil_append, List.drop_append (l₁ := O'), List.drop_of_length_le (l := O') (by omega), List.nil_append, hl]

theorem back (A D : ByteArray) (σ γ : Nat) (hok : okB A.size (σ : Int) (γ : Int) = true) (hD : D.size = 8 * γ) :
    ∃ b, writeS A (σ : Int) D = (b, true) ∧ readS b (σ : Int) (γ : Int) = (D, true) ∧ b.size = A.size ∧ writeS A (σ : Int) (A.extract (σ * 8) ((σ + γ) * 8)) = (A, true) ∧
      ∀ o : Nat, o * 8 + 8 ≤ A.size → (σ ≤ o ∧ o < σ + γ) ∨ ∃ p, readS A (o : Int) 1 = (p, true) ∧ readS b (o : Int) 1 = (p, true) := by
  have hb := ok_bd hok
  obtain ⟨X, O, Y, ha, hX, hO, hY⟩ := cut3 A (σ * 8) (8 * γ) (by omega)
  have hDl : D.data.toList.length = 8 * γ := by rw [← hD]; exact Array.length_toList
  have hDm : D = mk D.data.toList := mk_of D
  generalize D.data.toList = E at hDl hDm
  subst hDm
  have hsz : A.size = (X ++ (O ++ Y)).length := by rw [ha, mk_size]
  have hw : ∀ F : List UInt8, F.length = 8 * γ → writeB A.size (mk F).size (σ : Int) = true := by
    intro F hF
    unfold writeB
    rw [mk_size, hF]
    have e : ((8 * γ : Nat) : Int) / 8 = (γ : Int) := by omega
    rw [e, hok]; simp
  have hA : ∀ F : List UInt8, F.length = 8 * γ → writeS A (σ : Int) (mk F) = (mk (X ++ (F ++ Y)), true) := by
    intro F hF
    have := hw F hF
    rw [ha] at this ⊢
    exact write_mk hX (by omega) (by omega) (by omega) this
  have hbs : (mk (X ++ (E ++ Y))).size = A.size := by rw [mk_size, hsz]; simp; omega
  refine ⟨mk (X ++ (E ++ Y)), hA E hDl, ?_, hbs, ?_, ?_⟩
  · exact read_mk hX (by omega) (by omega) (by rw [hbs]; exact hok)
  · have e : A.extract (σ * 8) ((σ + γ) * 8) = mk O := by
      rw [ha, mk_ext]
      apply mk_inj
      have t2 : List.drop (σ * 8) (X ++ (O ++ Y)) = O ++ Y := by rw [List.drop_append, List.drop_of_length_le (by omega), List.nil_append, show σ * 8 - X.length = 0 from by omega, List.drop_zero]
      rw [t2, show (σ + γ) * 8 - σ * 8 = O.length from by omega, List.take_append_of_le_length (by omega), List.take_of_length_le (by omega)]
    rw [e, hA O hO, ← ha]
  · intro o ho
    by_cases hin : σ ≤ o ∧ o < σ + γ
    · exact Or.inl hin
    · refine Or.inr ⟨A.extract (o * 8) (o * 8 + 8), ?_, ?_⟩
      · unfold readS
        rw [if_pos (ok_mk (by omega))]
        rw [show ((o : Int) * 8).toNat = o * 8 from by omega, show (((o : Int) + 1) * 8).toNat = o * 8 + 8 from by omega]
      · unfold readS
        rw [if_pos (ok_mk (by rw [hbs]; omega))]
        rw [show ((o : Int) * 8).toNat = o * 8 from by omega, show (((o : Int) + 1) * 8).toNat = o * 8 + 8 from by omega]
        rw [ha, mk_ext, mk_ext]
        congr 1
        apply mk_inj
        rw [show o * 8 + 8 - o * 8 = 8 from by omega]
        by_cases hlt : o < σ
        · rw [sec_left (by omega), sec_left (by omega)]
        · exact (sec_right (by omega) (by omega)).symm

theorem data_succ (n : Int) (γ : Nat) (w : World) (h : γ < 1000) : Calls Try.prog 24 #[.int .i64 n, .int .i64 ((γ : Int) + 1)] w (RetW (.string (dataS n (γ + 1))) w) := by
  rw [show (γ : Int) + 1 = ((γ + 1 : Nat) : Int) from by omega]
  exact data_any n (γ + 1) w (by omega)

set_option maxRecDepth 100000 in
set_option maxHeartbeats 4000000 in
theorem back_walk (a0 a1 a2 a3 a4 a5 : Int) (w : World) :
    Calls Try.prog 5 #[.int .i64 a0, .int .i64 a1, .int .i64 a2, .int .i64 a3, .int .i64 a4, .int .i64 a5] w (RetW (.bool true) w) := by
  go_enter Try.func5, Try.ntmps5
  go_wp2_with fail
  refine (round_some _ _ _ (by omega) (by omega)).mono ?_; rintro e w' ⟨r, hr0, hr1, rfl, rfl⟩
  obtain ⟨κ, rfl⟩ := Int.eq_ofNat_of_zero_le hr0
  have C1 : Hid ((1 : Int) + (κ : Int) = ((κ + 1 : Nat) : Int)) := by show (1 : Int) + (κ : Int) = ((κ + 1 : Nat) : Int); omega
  go_wp2_with fail
  rw [C1.out]
  refine (dimage_any a0 (κ + 1) _ (by omega)).mono ?_; rintro e w1 ⟨rfl, hb1⟩
  go_wp2_with fail
  refine (round_some _ _ _ (by omega) (by omega)).mono ?_; rintro e w' ⟨s, hs0, hs1, rfl, rfl⟩
  obtain ⟨σ, rfl⟩ := Int.eq_ofNat_of_zero_le hs0
  go_wp2_with fail
  refine (round_some _ _ _ (by omega) (by omega)).mono ?_; rintro e w' ⟨g, hg0, hg1, rfl, rfl⟩
  obtain ⟨γ, rfl⟩ := Int.eq_ofNat_of_zero_le hg0
  have C2 : Hid ((1 : Int) + (γ : Int) = ((γ + 1 : Nat) : Int)) := by show (1 : Int) + (γ : Int) = ((γ + 1 : Nat) : Int); omega
  have hg2 : (σ : Int) + (γ : Int) + 1 ≤ (κ : Int) + 1 := by omega
  go_wp2_with fail
  rw [C2.out]
  refine (data_any a4 (γ + 1) _ (by omega)).mono ?_; rintro e w2 ⟨rfl, hb2⟩
  have hsa := dataS_size a0 (κ + 1)
  have hsd := dataS_size a4 (γ + 1)
  generalize dataS a0 (κ + 1) = A at hsa ⊢
  have hDc : dataS a4 (γ + 1) = dataS a4 (γ + 1) := rfl
  generalize hDg : dataS a4 (γ + 1) = d at hsd ⊢
  have HDG := Lib.hid hDg
  clear hDc hDg
  have hok : okB A.size (σ : Int) ((γ + 1 : Nat) : Int) = true := ok_mk (by omega)
  obtain ⟨b, q1, q2, q3, q4, q5⟩ := back A d σ (γ + 1) hok (by omega)
  have HA : Hid (A.size ≤ maxLen) := by show _ ≤ maxLen; unfold maxLen; omega
  have HB : Hid (b.size ≤ maxLen) := by show _ ≤ maxLen; unfold maxLen; omega
  have HD : Hid (d.size ≤ maxLen) := by show _ ≤ maxLen; unfold maxLen; omega
  have HX : Hid ((A.extract (σ * 8) ((σ + (γ + 1)) * 8)).size ≤ maxLen) := by show _ ≤ maxLen; rw [size_extract' _ _ _ (by omega)]; unfold maxLen; omega
  have E1 : ((σ : Int) * 8).toNat = σ * 8 := by omega
  have E2 : (((σ : Int) + ((γ : Int) + 1)) * 8).toNat = (σ + (γ + 1)) * 8 := by omega
  have E3 : ((γ + 1 : Nat) : Int) = (γ : Int) + 1 := by omega
  rw [E3] at q2
  rw [← E1, ← E2] at q4
  replace HX : Hid ((A.extract ((σ : Int) * 8).toNat (((σ : Int) + ((γ : Int) + 1)) * 8).toNat).size ≤ maxLen) := by rw [E1, E2]; exact HX
  have Q1 := Lib.hid q1; have Q2 := Lib.hid q2; have Q4 := Lib.hid q4; have Q5 := Lib.hid q5
  have HSA := Lib.hid hsa
  have b1 : ((σ : Int) + ((γ : Int) + 1)) * 8 ≤ (A.size : Int) := by omega
  have b2 : (A.size : Int) ≤ 64 := by omega
  have g0 : 0 ≤ (σ : Int) * 8 := by omega
  have g1 : (σ : Int) * 8 ≤ ((σ : Int) + ((γ : Int) + 1)) * 8 := by omega
  have g2 : 0 ≤ ((σ : Int) + ((γ : Int) + 1)) * 8 := by omega
  clear hsa hsd hok q1 q2 q3 q4 q5 E1 E2 E3
  go_wp2_with fail
  refine (write_any _ _ _ _ HA.out HD.out).mono ?_; rintro e w3 ⟨rfl, hb3⟩
  rw [Q1.out]
  have hB : Below w.heap.size w w3 := by
    have := hb1.trans (hb2.mono hb1.size)
    exact this.trans (hb3.mono this.size)
  clear hb1 hb2 hb3
  go_wp2_with fail
  refine (read_any _ _ _ _ HB.out).mono ?_; rintro e w' ⟨rfl, rfl⟩
  rw [Q2.out]
  go_wp2_with fail
  refine (round_some _ _ _ (by omega) (by omega)).mono ?_; rintro e w' ⟨o, ho0, ho1, rfl, rfl⟩
  obtain ⟨ω, rfl⟩ := Int.eq_ofNat_of_zero_le ho0
  rcases Q5.out ω (by have := HSA.out; omega) with hin | ⟨p, e1, e2⟩
  · have i1 : (σ : Int) ≤ (ω : Int) := by omega
    have i2 : (ω : Int) < (σ : Int) + ((γ : Int) + 1) := by omega
    clear hin Q5
    go_wp2_with fail
    refine (read_any _ _ _ _ HA.out).mono ?_; rintro e w' ⟨rfl, rfl⟩
    go_wp2_with fail
    refine (read_any _ _ _ _ HB.out).mono ?_; rintro e w' ⟨rfl, rfl⟩
    go_wp2_with fail
    refine (write_any _ _ _ _ HA.out HX.out).mono ?_; rintro e w4 ⟨rfl, hb4⟩
    rw [Q4.out]
    go_wp2_with (first | (go_at_call 24; refine (data_succ a4 γ _ (by omega)).mono ?_; rintro e w5 ⟨rfl, hb5⟩; rw [HDG.out]) | (go_at_call 21; refine (awake_any _).mono ?_; rintro e w6 ⟨rfl, hb6⟩))
    all_goals
      go_ret
      refine RetW.mk (by first | rfl | simp) ?_
      have h4 := hB.trans (hb4.mono hB.size)
      have h5 := h4.trans (hb5.mono h4.size)
      exact h5.trans (hb6.mono h5.size)
  · have R1 := Lib.hid e1; have R2 := Lib.hid e2
    clear e1 e2 Q5
    go_wp2_with fail
    refine (read_any _ _ _ _ HA.out).mono ?_; rintro e w' ⟨rfl, rfl⟩
    rw [R1.out]
    go_wp2_with fail
    refine (read_any _ _ _ _ HB.out).mono ?_; rintro e w' ⟨rfl, rfl⟩
    rw [R2.out]
    go_wp2_with fail
    refine (write_any _ _ _ _ HA.out HX.out).mono ?_; rintro e w4 ⟨rfl, hb4⟩
    rw [Q4.out]
    go_wp2_with (first | (go_at_call 24; refine (data_succ a4 γ _ (by omega)).mono ?_; rintro e w5 ⟨rfl, hb5⟩; rw [HDG.out]) | (go_at_call 21; refine (awake_any _).mono ?_; rintro e w6 ⟨rfl, hb6⟩))
    all_goals
      go_ret
      refine RetW.mk (by first | rfl | simp) ?_
      have h4 := hB.trans (hb4.mono hB.size)
      have h5 := h4.trans (hb5.mono h4.size)
      exact h5.trans (hb6.mono h5.size)
end Go.Proofs.Ytincobjgfclfjaa
