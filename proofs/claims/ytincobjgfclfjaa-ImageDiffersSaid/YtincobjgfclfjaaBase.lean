/- Contracts of layer 19: the small functions. -/
import Derived.Test.YtincobjgfclfjaaBytes
import Derived.Test.YtincobjgfclfjaaShelf
namespace Go.Proofs.Ytincobjgfclfjaa
open Go.ChangeShapes Go.WideShapes Go.ChangeAt Go.RowKit

def imB (n : Nat) : Bool := ((n : Int) % 8 == 0) && decide ((n : Int) ≤ 1024)
theorem im_bd {n : Nat} (h : imB n = true) : (n : Int) % 8 = 0 ∧ (n : Int) ≤ 1024 := by unfold imB at h; simp at h; omega
def okB (n : Nat) (s c : Int) : Bool := imB n && decide (1 ≤ c) && decide (0 ≤ s) && decide (s + c ≤ (n : Int) / 8)
theorem ok_bd {n : Nat} {s c : Int} (h : okB n s c = true) : (n : Int) % 8 = 0 ∧ (n : Int) ≤ 1024 ∧ 1 ≤ c ∧ 0 ≤ s ∧ s + c ≤ (n : Int) / 8 := by
  unfold okB at h; simp at h
  have := im_bd h.1.1.1
  omega
theorem ok_mk {n : Nat} {s c : Int} (h : (n : Int) % 8 = 0 ∧ (n : Int) ≤ 1024 ∧ 1 ≤ c ∧ 0 ≤ s ∧ s + c ≤ (n : Int) / 8) : okB n s c = true := by
  unfold okB imB; simp; omega
theorem ok_no {n : Nat} {s c : Int} (h : imB n = false ∨ c < 1 ∨ s < 0 ∨ (n : Int) / 8 < s + c) : okB n s c = false := by
  unfold okB
  rcases h with h | h | h | h
  · simp [h]
  · have : decide (1 ≤ c) = false := by simp; omega
    simp [this]
  · have : decide (0 ≤ s) = false := by simp; omega
    simp [this]
  · have : decide (s + c ≤ (n : Int) / 8) = false := by simp; omega
    simp [this]

set_option maxHeartbeats 400000 in
theorem valid_any (a : ByteArray) (w : World) (ha : a.size ≤ maxLen) :
    Calls Try.prog 14 #[.string a] w fun e w' => e = .returned (.bool (imB a.size)) ∧ w = w' := by
  unfold maxLen at ha
  go_enter Try.func14, Try.ntmps14
  go_wp2
  all_goals
    go_ret
    exact ⟨by unfold imB; simp [*]; try omega, rfl⟩

set_option maxHeartbeats 400000 in
theorem image_any (a : ByteArray) (w : World) (ha : a.size ≤ maxLen) :
    Calls Try.prog 15 #[.string a] w fun e w' => e = .returned (.bool (imB a.size)) ∧ w = w' := by
  unfold maxLen at ha
  go_enter Try.func15, Try.ntmps15
  go_wp2
  all_goals
    go_ret
    exact ⟨by unfold imB; simp [*]; try omega, rfl⟩

def spanS (n : Nat) (s c : Int) : Int × Int × Bool := if okB n s c = true then (s * 8, (s + c) * 8, true) else (0, 0, false)
set_option maxHeartbeats 1000000 in
theorem span_any (a : ByteArray) (s c : Int) (w : World) (ha : a.size ≤ maxLen) :
    Calls Try.prog 25 #[.string a, .int .i64 s, .int .i64 c] w fun e w' => e = .returned (.tuple #[.int .i64 (spanS a.size s c).1, .int .i64 (spanS a.size s c).2.1, .bool (spanS a.size s c).2.2]) ∧ w = w' := by
  have ha' := ha
  unfold maxLen at ha'
  cases h : imB a.size with
  | false =>
    have hs : spanS a.size s c = (0, 0, false) := by unfold spanS; rw [if_neg (by simp [ok_no (Or.inl h)])]
    rw [hs]
    go_enter Try.func25, Try.ntmps25
    go_wp2_with (go_at_call 14; refine (valid_any _ _ ha).mono ?_; rintro e w' ⟨rfl, rfl⟩)
    go_ret3
    exact ⟨rfl, rfl⟩
  | true =>
    have hb := im_bd h
    have b1 : (a.size : Int) ≤ 1024 := hb.2
    have hb0 := Lib.hid hb.1
    clear hb
    by_cases h1 : c < 1
    · have hs : spanS a.size s c = (0, 0, false) := by unfold spanS; rw [if_neg (by simp [ok_no (Or.inr (Or.inl h1))])]
      rw [hs]
      go_enter Try.func25, Try.ntmps25
      go_wp2_with (go_at_call 14; refine (valid_any _ _ ha).mono ?_; rintro e w' ⟨rfl, rfl⟩)
      go_ret3
      exact ⟨rfl, rfl⟩
    · by_cases h2 : s < 0
      · have hs : spanS a.size s c = (0, 0, false) := by unfold spanS; rw [if_neg (by simp [ok_no (Or.inr (Or.inr (Or.inl h2)))])]
        rw [hs]
        go_enter Try.func25, Try.ntmps25
        go_wp2_with (go_at_call 14; refine (valid_any _ _ ha).mono ?_; rintro e w' ⟨rfl, rfl⟩)
        go_ret3
        exact ⟨rfl, rfl⟩
      · by_cases h3 : (a.size : Int) / 8 ≤ s
        · have hs : spanS a.size s c = (0, 0, false) := by unfold spanS; rw [if_neg (by simp [ok_no (n := a.size) (s := s) (c := c) (Or.inr (Or.inr (Or.inr (by omega))))])]
          rw [hs]
          go_enter Try.func25, Try.ntmps25
          go_wp2_with (go_at_call 14; refine (valid_any _ _ ha).mono ?_; rintro e w' ⟨rfl, rfl⟩)
          go_ret3
          exact ⟨rfl, rfl⟩
        · by_cases h4 : (a.size : Int) / 8 - s < c
          · have hs : spanS a.size s c = (0, 0, false) := by unfold spanS; rw [if_neg (by simp [ok_no (n := a.size) (s := s) (c := c) (Or.inr (Or.inr (Or.inr (by omega))))])]
            rw [hs]
            go_enter Try.func25, Try.ntmps25
            go_wp2_with (go_at_call 14; refine (valid_any _ _ ha).mono ?_; rintro e w' ⟨rfl, rfl⟩)
            go_ret3
            exact ⟨rfl, rfl⟩
          · have hs : spanS a.size s c = (s * 8, (s + c) * 8, true) := by unfold spanS; rw [if_pos (ok_mk ⟨hb0.out, b1, by omega, by omega, by omega⟩)]
            rw [hs]
            have c1 : 0 ≤ s := by omega
            have c2 : s ≤ 128 := by omega
            have c3 : 1 ≤ c := by omega
            have c4 : c ≤ 128 := by omega
            have c5 : s < (a.size : Int) / 8 := by omega
            have c6 : c ≤ (a.size : Int) / 8 - s := by omega
            clear h1 h2 h3 h4
            go_enter Try.func25, Try.ntmps25
            go_wp2_with (go_at_call 14; refine (valid_any _ _ ha).mono ?_; rintro e w' ⟨rfl, rfl⟩)
            go_ret3
            exact ⟨rfl, rfl⟩

def inB (s c n : Int) : Bool := decide (0 ≤ s) && decide (0 ≤ c) && decide (s ≤ n) && decide (c ≤ n - s)
set_option maxHeartbeats 400000 in
theorem in_any (s c n : Int) (w : World) (h0 : 0 ≤ n) (h1 : n ≤ 1000000) :
    Calls Try.prog 26 #[.int .i64 s, .int .i64 c, .int .i64 n] w fun e w' => e = .returned (.bool (inB s c n)) ∧ w = w' := by
  go_enter Try.func26, Try.ntmps26
  go_wp2
  all_goals
    go_ret
    exact ⟨by unfold inB; simp [*]; try omega, rfl⟩
def wholeB (n : Nat) : Bool := decide ((0 : Int) < (n : Int)) && ((n : Int) % 8 == 0)
set_option maxHeartbeats 400000 in
theorem whole_any (a : ByteArray) (w : World) (ha : a.size ≤ maxLen) :
    Calls Try.prog 27 #[.string a] w fun e w' => e = .returned (.bool (wholeB a.size)) ∧ w = w' := by
  unfold maxLen at ha
  go_enter Try.func27, Try.ntmps27
  go_wp2
  all_goals
    go_ret
    exact ⟨by unfold wholeB; simp [*]; try omega, rfl⟩

theorem rep_zero (c : Nat) : Lib.repeatL [0] c = List.replicate c (0 : UInt8) := by
  induction c with
  | zero => rfl
  | succ n ih => simp [Lib.repeatL, ih, List.replicate_succ]
theorem repeat_any (n : Int) (w : World) (h0 : 0 ≤ n) (h1 : n ≤ 1000000) :
    Calls Try.prog 29 #[.string ⟨#[0]⟩, .int .i64 n] w (RetW (.string (zeros n.toNat)) w) := by
  obtain ⟨c, rfl⟩ := Int.eq_ofNat_of_zero_le h0
  refine (Try.strings_Repeat ⟨#[0]⟩ c w (by omega) (by show 1 * c ≤ _; omega)).mono ?_
  rintro e w' ⟨rfl, hb⟩
  refine ⟨?_, hb⟩
  show Ending.returned (.string ⟨(Lib.repeatL [0] c).toArray⟩) = _
  rw [rep_zero]; rfl
def zeroS (n : Int) : ByteArray := if n < 0 ∨ 128 < n then ⟨#[]⟩ else zeros (n * 8).toNat
set_option maxHeartbeats 400000 in
theorem zero_any (n : Int) (w : World) : Calls Try.prog 16 #[.int .i64 n] w (RetW (.string (zeroS n)) w) := by
  by_cases h0 : n < 0
  · rw [show zeroS n = ⟨#[]⟩ from by unfold zeroS; rw [if_pos (Or.inl h0)]]
    go_enter Try.func16, Try.ntmps16
    go_wp2_with fail
    go_ret
    exact RetW.mk rfl (Below.refl _ _)
  · by_cases h1 : 128 < n
    · rw [show zeroS n = ⟨#[]⟩ from by unfold zeroS; rw [if_pos (Or.inr h1)]]
      go_enter Try.func16, Try.ntmps16
      go_wp2_with fail
      go_ret
      exact RetW.mk rfl (Below.refl _ _)
    · rw [show zeroS n = zeros (n * 8).toNat from by unfold zeroS; rw [if_neg (by omega)]]
      have g0 : 0 ≤ n := by omega
      have g1 : n ≤ 128 := by omega
      clear h0 h1
      go_enter Try.func16, Try.ntmps16
      go_wp2_with fail
      refine (repeat_any _ _ (by omega) (by omega)).mono ?_
      rintro e w' ⟨rfl, hb⟩
      go_wp2_with fail
      go_ret
      exact RetW.mk rfl hb
set_option maxHeartbeats 400000 in
theorem rzero_any (n : Int) (w : World) : Calls Try.prog 17 #[.int .i64 n] w (RetW (.string (zeroS n)) w) := by
  by_cases h0 : n < 0
  · rw [show zeroS n = ⟨#[]⟩ from by unfold zeroS; rw [if_pos (Or.inl h0)]]
    go_enter Try.func17, Try.ntmps17
    go_wp2_with fail
    go_ret
    exact RetW.mk rfl (Below.refl _ _)
  · by_cases h1 : 128 < n
    · rw [show zeroS n = ⟨#[]⟩ from by unfold zeroS; rw [if_pos (Or.inr h1)]]
      go_enter Try.func17, Try.ntmps17
      go_wp2_with fail
      go_ret
      exact RetW.mk rfl (Below.refl _ _)
    · rw [show zeroS n = zeros (n * 8).toNat from by unfold zeroS; rw [if_neg (by omega)]]
      have g0 : 0 ≤ n := by omega
      have g1 : n ≤ 128 := by omega
      clear h0 h1
      have hmk := make_bytes (n * 8) (by omega) (by omega)
      have hcv := conv_zeros (n * 8).toNat
      go_enter Try.func17, Try.ntmps17
      go_wp2_with fail
      go_ret
      exact RetW.mk rfl ((Below.refl _ _).alloc (Nat.le_refl _) _)
end Go.Proofs.Ytincobjgfclfjaa
