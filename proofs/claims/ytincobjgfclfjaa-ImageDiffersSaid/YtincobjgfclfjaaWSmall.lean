/- The walks of ImageSmall and ImageExact. -/
import Derived.Test.YtincobjgfclfjaaSame
import Derived.Test.YtincobjgfclfjaaHalf
namespace Go.Proofs.Ytincobjgfclfjaa
open Go.ChangeShapes Go.WideShapes Go.ChangeAt Go.RowKit

theorem own_below {w w' : World} {base B : Nat} {e : TypeId} {size : Nat} {v : Value} {n : Nat} {xs : List Value} (h : w.ownsRow base e size v n xs) (hb : Below B w w') (hB : w.heap.size ≤ B) : w'.ownsRow base e size v n xs := by
  obtain ⟨h1, h2⟩ := h
  refine ⟨h1, ?_⟩
  rcases h2 with h2 | ⟨g, cap, cur, hv, hg, hh, r⟩
  · exact Or.inl h2
  · refine Or.inr ⟨g, cap, cur, hv, hg, ?_, r⟩
    have hlt : g < w.heap.size := by
      rcases Nat.lt_or_ge g w.heap.size with h | h
      · exact h
      · rw [Array.getElem?_eq_none h] at hh; cases hh
    rw [hb.block g (by omega)]; exact hh
theorem difS_le (a b : ByteArray) (ha : imB a.size = false ∨ a.size ≤ 8000000) : (difS a b).length ≤ 1000000 := by
  unfold difS
  split
  · rename_i h
    have := difL_le a b (a.size / 8)
    rcases ha with h1 | h1
    · rw [h.1] at h1; cases h1
    · omega
  · simp
theorem im_small {a : ByteArray} : imB a.size = false ∨ a.size ≤ 8000000 := by
  cases h : imB a.size with
  | false => exact Or.inl rfl
  | true => exact Or.inr (by have := im_bd h; omega)

set_option maxRecDepth 100000 in
set_option maxHeartbeats 4000000 in
theorem small_walk (a0 a1 a2 a3 a4 : Int) (w : World) :
    Calls Try.prog 4 #[.int .i64 a0, .int .i64 a1, .int .i64 a2, .int .i64 a3, .int .i64 a4] w (RetW (.bool true) w) := by
  go_enter Try.func4, Try.ntmps4
  go_wp2_with fail
  refine (round_some _ _ _ (by omega) (by omega)).mono ?_; rintro e w' ⟨r, hr0, hr1, rfl, rfl⟩
  obtain ⟨κ, rfl⟩ := Int.eq_ofNat_of_zero_le hr0
  go_wp2_with fail
  refine (dimage_any a0 κ _ (by omega)).mono ?_; rintro e w1 ⟨rfl, hb1⟩
  go_wp2_with fail
  refine (round_some _ _ _ (by omega) (by omega)).mono ?_; rintro e w' ⟨r2, hs0, hs1, rfl, rfl⟩
  obtain ⟨κ2, rfl⟩ := Int.eq_ofNat_of_zero_le hs0
  go_wp2_with fail
  refine (dimage_any a4 κ2 _ (by omega)).mono ?_; rintro e w2 ⟨rfl, hb2⟩
  have hsa := dataS_size a0 κ
  have hsb := dataS_size a4 κ2
  generalize dataS a0 κ = A at hsa ⊢
  generalize dataS a4 κ2 = B at hsb ⊢
  go_wp2_with fail
  refine (round_some _ _ _ (by omega) (by omega)).mono ?_; rintro e w' ⟨k, hk0, hk1, rfl, rfl⟩
  go_wp2_with fail
  refine (round_some _ _ _ (by omega) (by omega)).mono ?_; rintro e w' ⟨c, hc0, hc1, rfl, rfl⟩
  obtain ⟨γ, rfl⟩ := Int.eq_ofNat_of_zero_le hc0
  have HA : Hid (A.size ≤ maxLen) := by show _ ≤ maxLen; unfold maxLen; omega
  have HB : Hid (B.size ≤ maxLen) := by show _ ≤ maxLen; unfold maxLen; omega
  have hsd := dataS_size a4 γ
  have HD : Hid ((dataS a4 γ).size ≤ maxLen) := by show _ ≤ maxLen; unfold maxLen; omega
  have hI : imB A.size = true := by unfold imB; simp; omega
  clear hsa hsb hsd
  go_wp2_with fail
  refine (read_any _ _ _ _ HA.out).mono ?_; rintro e w' ⟨rfl, rfl⟩
  go_wp2_with fail
  refine (rread_any _ _ _ _ HA.out).mono ?_; rintro e w' ⟨rfl, rfl⟩
  go_wp2_with fail
  refine (data_any a4 γ _ (by omega)).mono ?_; rintro e w3 ⟨rfl, hb3⟩
  go_wp2_with fail
  refine (write_any _ _ _ _ HA.out HD.out).mono ?_; rintro e w4 ⟨rfl, hb4⟩
  go_wp2_with fail
  refine (data_any a4 γ _ (by omega)).mono ?_; rintro e w5 ⟨rfl, hb5⟩
  go_wp2_with fail
  refine (rwrite_any _ _ _ _ HA.out HD.out).mono ?_; rintro e w6 ⟨rfl, hb6⟩
  go_wp2_with fail
  refine (diff_any A B _ HA.out HB.out).mono ?_; rintro e w7 ⟨v7, rfl, hb7, hown7⟩
  go_wp2_with fail
  refine (rdiff_any A B _ HA.out HB.out).mono ?_; rintro e w8 ⟨v8, rfl, hb8, hown8⟩
  go_wp2_with fail
  refine (same_any v7 v8 (difS A B) _ _ w8 (difS_le A B im_small) (own_below hown7 hb8 (Nat.le_refl _)) hown8).mono ?_; rintro e w9 ⟨rfl, hb9⟩
  clear hown7 hown8
  go_wp2_with fail
  refine (valid_any _ _ HA.out).mono ?_; rintro e w' ⟨rfl, rfl⟩
  go_wp2_with fail
  refine (awake_any _).mono ?_; rintro e w10 ⟨rfl, hb10⟩
  go_wp2_with fail
  go_ret
  refine RetW.mk (by first | rfl | simp) ?_
  have h := hb1.trans (hb2.mono hb1.size)
  replace h := h.trans (hb3.mono h.size)
  replace h := h.trans (hb4.mono h.size)
  replace h := h.trans (hb5.mono h.size)
  replace h := h.trans (hb6.mono h.size)
  replace h := h.trans (hb7.mono h.size)
  replace h := h.trans (hb8.mono h.size)
  replace h := h.trans (hb9.mono h.size)
  exact h.trans (hb10.mono h.size)
end Go.Proofs.Ytincobjgfclfjaa
