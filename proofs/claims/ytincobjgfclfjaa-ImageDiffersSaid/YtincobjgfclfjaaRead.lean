/- Contracts of layer 19: reading, writing, halves. -/
import Derived.Test.YtincobjgfclfjaaBase
namespace Go.Proofs.Ytincobjgfclfjaa
open Go.ChangeShapes Go.WideShapes Go.ChangeAt Go.RowKit

theorem extract_none (a : ByteArray) (i : Nat) : a.extract i i = ⟨#[]⟩ := by
  apply ByteArray.ext; simp [ByteArray.data_extract]
def readS (a : ByteArray) (s c : Int) : ByteArray × Bool := if okB a.size s c = true then (a.extract (s * 8).toNat ((s + c) * 8).toNat, true) else (⟨#[]⟩, false)
set_option maxHeartbeats 1000000 in
theorem read_any (a : ByteArray) (s c : Int) (w : World) (ha : a.size ≤ maxLen) :
    Calls Try.prog 8 #[.string a, .int .i64 s, .int .i64 c] w fun e w' => e = .returned (.tuple #[.string (readS a s c).1, .bool (readS a s c).2]) ∧ w = w' := by
  have ha' := ha
  unfold maxLen at ha'
  cases h : okB a.size s c with
  | false =>
    have hs : spanS a.size s c = (0, 0, false) := by unfold spanS; rw [if_neg (by simp [h])]
    have hr : readS a s c = (⟨#[]⟩, false) := by unfold readS; rw [if_neg (by simp [h])]
    rw [hr]
    go_enter Try.func8, Try.ntmps8
    go_wp2_with fail
    refine (span_any _ _ _ _ ha).mono ?_
    rintro e w' ⟨rfl, rfl⟩
    go_wp2_with fail
    go_ret2
    exact ⟨rfl, rfl⟩
  | true =>
    have hs : spanS a.size s c = (s * 8, (s + c) * 8, true) := by unfold spanS; rw [if_pos h]
    have hr : readS a s c = (a.extract (s * 8).toNat ((s + c) * 8).toNat, true) := by unfold readS; rw [if_pos h]
    rw [hr]
    have hb := ok_bd h
    have c1 : 0 ≤ s * 8 := by omega
    have c2 : s * 8 ≤ (s + c) * 8 := by omega
    have c3 : (s + c) * 8 ≤ (a.size : Int) := by omega
    have c4 : 0 ≤ (s + c) * 8 := by omega
    clear hb hr
    go_enter Try.func8, Try.ntmps8
    go_wp2_with fail
    refine (span_any _ _ _ _ ha).mono ?_
    rintro e w' ⟨rfl, rfl⟩
    go_wp2_with fail
    go_ret2
    exact ⟨rfl, rfl⟩

theorem okB_in (n : Nat) (s c : Int) : okB n s c = (imB n && decide (1 ≤ c) && inB s c ((n : Int) / 8)) := by
  unfold okB inB
  cases imB n with
  | false => simp
  | true =>
    rw [Bool.eq_iff_iff]; simp; omega
set_option maxHeartbeats 1000000 in
theorem rread_any (a : ByteArray) (s c : Int) (w : World) (ha : a.size ≤ maxLen) :
    Calls Try.prog 9 #[.string a, .int .i64 s, .int .i64 c] w fun e w' => e = .returned (.tuple #[.string (readS a s c).1, .bool (readS a s c).2]) ∧ w = w' := by
  have ha' := ha
  unfold maxLen at ha'
  cases h : okB a.size s c with
  | true =>
    have hr : readS a s c = (a.extract (s * 8).toNat ((s + c) * 8).toNat, true) := by unfold readS; rw [if_pos h]
    rw [hr]
    have hb := ok_bd h
    rw [okB_in] at h
    simp only [Bool.and_eq_true] at h
    have hi : imB a.size = true := h.1.1
    have hn : inB s c ((a.size : Int) / 8) = true := h.2
    have b1 : (a.size : Int) ≤ 1024 := hb.2.1
    have b2 : 1 ≤ c := hb.2.2.1
    have b3 : c ≤ 128 := by omega
    have b4 : 0 ≤ s := hb.2.2.2.1
    have b5 : s ≤ 128 := by omega
    have c1 : 0 ≤ s * 8 := by omega
    have c2 : s * 8 ≤ (s + c) * 8 := by omega
    have c3 : (s + c) * 8 ≤ (a.size : Int) := by omega
    have c4 : 0 ≤ (s + c) * 8 := by omega
    clear hb hr h
    go_enter Try.func9, Try.ntmps9
    go_wp2_with fail
    refine (image_any _ _ ha).mono ?_
    rintro e w' ⟨rfl, rfl⟩
    go_wp2_with fail
    refine (in_any _ _ _ _ (by omega) (by omega)).mono ?_
    rintro e w' ⟨rfl, rfl⟩
    go_wp2_with fail
    go_ret2
    exact ⟨rfl, rfl⟩
  | false =>
    have hr : readS a s c = (⟨#[]⟩, false) := by unfold readS; rw [if_neg (by simp [h])]
    rw [hr]
    rw [okB_in] at h
    cases hi : imB a.size with
    | false =>
      go_enter Try.func9, Try.ntmps9
      go_wp2_with fail
      refine (image_any _ _ ha).mono ?_
      rintro e w' ⟨rfl, rfl⟩
      go_wp2_with fail
      go_ret2
      exact ⟨rfl, rfl⟩
    | true =>
      have hb := im_bd hi
      have b1 : (a.size : Int) ≤ 1024 := hb.2
      by_cases h1 : c < 1
      · clear h hb hr
        go_enter Try.func9, Try.ntmps9
        go_wp2_with fail
        refine (image_any _ _ ha).mono ?_
        rintro e w' ⟨rfl, rfl⟩
        go_wp2_with fail
        go_ret2
        exact ⟨rfl, rfl⟩
      · have hd : decide (1 ≤ c) = true := by simp; omega
        have hn : inB s c ((a.size : Int) / 8) = false := by rw [hi, hd] at h; simpa using h
        have b2 : 1 ≤ c := by omega
        clear h hb hr hd h1
        go_enter Try.func9, Try.ntmps9
        go_wp2_with fail
        refine (image_any _ _ ha).mono ?_
        rintro e w' ⟨rfl, rfl⟩
        go_wp2_with fail
        refine (in_any _ _ _ _ (by omega) (by omega)).mono ?_
        rintro e w' ⟨rfl, rfl⟩
        go_wp2_with fail
        go_ret2
        exact ⟨rfl, rfl⟩

def writeB (n m : Nat) (s : Int) : Bool := okB n s ((m : Int) / 8) && ((m : Int) % 8 == 0)
def writeS (a : ByteArray) (s : Int) (d : ByteArray) : ByteArray × Bool :=
  if writeB a.size d.size s = true then (a.extract 0 (s * 8).toNat ++ d ++ a.extract ((s + (d.size : Int) / 8) * 8).toNat a.size, true) else (⟨#[]⟩, false)
set_option maxHeartbeats 1000000 in
theorem write_any (a : ByteArray) (s : Int) (d : ByteArray) (w : World) (ha : a.size ≤ maxLen) (hd : d.size ≤ maxLen) :
    Calls Try.prog 10 #[.string a, .int .i64 s, .string d] w (RetW (.tuple #[.string (writeS a s d).1, .bool (writeS a s d).2]) w) := by
  have ha' := ha
  have hd' := hd
  unfold maxLen at ha' hd'
  cases h : okB a.size s ((d.size : Int) / 8) with
  | false =>
    have hs : spanS a.size s ((d.size : Int) / 8) = (0, 0, false) := by unfold spanS; rw [if_neg (by simp [h])]
    have hr : writeS a s d = (⟨#[]⟩, false) := by unfold writeS writeB; rw [if_neg (by simp [h])]
    rw [hr]
    go_enter Try.func10, Try.ntmps10
    go_wp2_with fail
    refine (span_any _ _ _ _ ha).mono ?_
    rintro e w' ⟨rfl, rfl⟩
    go_wp2_with fail
    go_ret2
    exact RetW.mk rfl (Below.refl _ _)
  | true =>
    have hs : spanS a.size s ((d.size : Int) / 8) = (s * 8, (s + (d.size : Int) / 8) * 8, true) := by unfold spanS; rw [if_pos h]
    cases h8 : ((d.size : Int) % 8 == 0) with
    | false =>
      have hr : writeS a s d = (⟨#[]⟩, false) := by unfold writeS writeB; rw [if_neg (by simp [h8])]
      rw [hr]
      have h8' : ((d.size : Int) % 8 != 0) = true := by simp [bne, h8]
      clear hr
      go_enter Try.func10, Try.ntmps10
      go_wp2_with fail
      refine (span_any _ _ _ _ ha).mono ?_
      rintro e w' ⟨rfl, rfl⟩
      go_wp2_with fail
      go_ret2
      exact RetW.mk rfl (Below.refl _ _)
    | true =>
      have hr : writeS a s d = (a.extract 0 (s * 8).toNat ++ d ++ a.extract ((s + (d.size : Int) / 8) * 8).toNat a.size, true) := by unfold writeS writeB; rw [if_pos (by simp [h, h8])]
      rw [hr]
      have hb := ok_bd h
      have b1 : (a.size : Int) ≤ 1024 := hb.2.1
      have b4 : 0 ≤ s := hb.2.2.2.1
      have b5 : s ≤ 128 := by omega
      have b6 : (d.size : Int) ≤ 1032 := by omega
      have c1 : 0 ≤ s * 8 := by omega
      have c2 : s * 8 ≤ (a.size : Int) := by omega
      have c3 : (s + (d.size : Int) / 8) * 8 ≤ (a.size : Int) := by omega
      have c4 : 0 ≤ (s + (d.size : Int) / 8) * 8 := by omega
      have s1 : ¬ (9223372036854775807 < (s * 8).toNat + d.size) := by omega
      have s2 : ¬ (9223372036854775807 < (s * 8).toNat + d.size + (a.size - ((s + (d.size : Int) / 8) * 8).toNat)) := by omega
      have h8' : ((d.size : Int) % 8 != 0) = false := by simp [bne, h8]
      clear hb hr
      go_enter Try.func10, Try.ntmps10
      go_wp2_with fail
      refine (span_any _ _ _ _ ha).mono ?_
      rintro e w' ⟨rfl, rfl⟩
      go_wp2_with fail
      go_quiet (fail)
      go_wp2
      go_ret2
      exact RetW.mk rfl (below_drewN (Below.refl _ _) _)

theorem writeB_in (n m : Nat) (s : Int) (hm : (m : Int) ≤ 9223372036854775807) : writeB n m s = (imB n && wholeB m && inB s ((m : Int) / 8) ((n : Int) / 8)) := by
  unfold writeB
  rw [okB_in]
  unfold wholeB
  cases imB n with
  | false => simp
  | true =>
    cases h8 : ((m : Int) % 8 == 0) with
    | false => simp
    | true =>
      have h8' : (m : Int) % 8 = 0 := by simpa using h8
      have : decide (1 ≤ (m : Int) / 8) = decide ((0 : Int) < (m : Int)) := by
        rw [decide_eq_decide]; omega
      rw [this]; simp

set_option maxHeartbeats 1000000 in
theorem rwrite_any (a : ByteArray) (s : Int) (d : ByteArray) (w : World) (ha : a.size ≤ maxLen) (hd : d.size ≤ maxLen) :
    Calls Try.prog 11 #[.string a, .int .i64 s, .string d] w (RetW (.tuple #[.string (writeS a s d).1, .bool (writeS a s d).2]) w) := by
  have ha' := ha
  have hd' := hd
  unfold maxLen at ha' hd'
  cases hi : imB a.size with
  | false =>
    have hr : writeS a s d = (⟨#[]⟩, false) := by unfold writeS; rw [if_neg (by rw [writeB_in _ _ _ (by omega), hi]; simp)]
    rw [hr]
    go_enter Try.func11, Try.ntmps11
    go_wp2_with fail
    refine (image_any _ _ ha).mono ?_
    rintro e w' ⟨rfl, rfl⟩
    go_wp2_with fail
    go_ret2
    exact RetW.mk rfl (Below.refl _ _)
  | true =>
    have hib := im_bd hi
    have b1 : (a.size : Int) ≤ 1024 := hib.2
    cases hw : wholeB d.size with
    | false =>
      have hr : writeS a s d = (⟨#[]⟩, false) := by unfold writeS; rw [if_neg (by rw [writeB_in _ _ _ (by omega), hi, hw]; simp)]
      rw [hr]
      clear hib
      go_enter Try.func11, Try.ntmps11
      go_wp2_with fail
      refine (image_any _ _ ha).mono ?_
      rintro e w' ⟨rfl, rfl⟩
      go_wp2_with fail
      refine (whole_any _ _ hd).mono ?_
      rintro e w' ⟨rfl, rfl⟩
      go_wp2_with fail
      go_ret2
      exact RetW.mk rfl (Below.refl _ _)
    | true =>
      cases hn : inB s ((d.size : Int) / 8) ((a.size : Int) / 8) with
      | false =>
        have hr : writeS a s d = (⟨#[]⟩, false) := by unfold writeS; rw [if_neg (by rw [writeB_in _ _ _ (by omega), hi, hw, hn]; simp)]
        rw [hr]
        clear hib
        go_enter Try.func11, Try.ntmps11
        go_wp2_with fail
        refine (image_any _ _ ha).mono ?_
        rintro e w' ⟨rfl, rfl⟩
        go_wp2_with fail
        refine (whole_any _ _ hd).mono ?_
        rintro e w' ⟨rfl, rfl⟩
        go_wp2_with fail
        refine (in_any _ _ _ _ (by omega) (by omega)).mono ?_
        rintro e w' ⟨rfl, rfl⟩
        go_wp2_with fail
        go_ret2
        exact RetW.mk rfl (Below.refl _ _)
      | true =>
        have hB : writeB a.size d.size s = true := by rw [writeB_in _ _ _ (by omega), hi, hw, hn]; rfl
        have hr : writeS a s d = (a.extract 0 (s * 8).toNat ++ d ++ a.extract ((s + (d.size : Int) / 8) * 8).toNat a.size, true) := by unfold writeS; rw [if_pos hB]
        rw [hr]
        unfold writeB at hB
        simp only [Bool.and_eq_true] at hB
        have h := hB.1
        have h8 : (d.size : Int) % 8 = 0 := by simpa using hB.2
        have hb := ok_bd h
        have b1 : (a.size : Int) ≤ 1024 := hb.2.1
        have b4 : 0 ≤ s := hb.2.2.2.1
        have b5 : s ≤ 128 := by omega
        have b6 : (d.size : Int) ≤ 1032 := by omega
        have c1 : 0 ≤ s * 8 := by omega
        have c2 : s * 8 ≤ (a.size : Int) := by omega
        have c3 : (s + (d.size : Int) / 8) * 8 ≤ (a.size : Int) := by omega
        have c4 : 0 ≤ (s + (d.size : Int) / 8) * 8 := by omega
        have s1 : ¬ (9223372036854775807 < (s * 8).toNat + d.size) := by omega
        have s2 : ¬ (9223372036854775807 < (s * 8).toNat + d.size + (a.size - ((s + (d.size : Int) / 8) * 8).toNat)) := by omega
        have g1 : IntKind.i64.wrap (s * 8 + (d.size : Int)) = (s + (d.size : Int) / 8) * 8 := by rw [IntWalk.i64_in _ (by omega)]; omega
        clear hb hr hB h8 h hib
        go_enter Try.func11, Try.ntmps11
        go_wp2_with fail
        refine (image_any _ _ ha).mono ?_
        rintro e w' ⟨rfl, rfl⟩
        go_wp2_with fail
        refine (whole_any _ _ hd).mono ?_
        rintro e w' ⟨rfl, rfl⟩
        go_wp2_with fail
        refine (in_any _ _ _ _ (by omega) (by omega)).mono ?_
        rintro e w' ⟨rfl, rfl⟩
        go_wp2_with fail
        go_quiet (fail)
        go_wp2
        go_ret2
        exact RetW.mk rfl (below_drewN (Below.refl _ _) _)
end Go.Proofs.Ytincobjgfclfjaa
