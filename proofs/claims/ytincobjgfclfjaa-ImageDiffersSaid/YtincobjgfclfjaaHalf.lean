/- Contracts of layer 19: halves; dock.Image. -/
import Derived.Test.YtincobjgfclfjaaRead
import Derived.Test.YtincobjgfclfjaaData
namespace Go.Proofs.Ytincobjgfclfjaa
open Go.ChangeShapes Go.WideShapes Go.ChangeAt Go.RowKit

def tornS (d old : ByteArray) : ByteArray := d.extract 0 4 ++ old.extract 4 old.size
def halfB (n : Nat) (s : Int) (m : Nat) : Bool := okB n s 1 && ((m : Int) == 8)
def halfS (a : ByteArray) (s : Int) (d : ByteArray) : ByteArray × Bool :=
  if halfB a.size s d.size = true then writeS a s (tornS d (readS a s 1).1) else (⟨#[]⟩, false)
theorem size_extract' (a : ByteArray) (i j : Nat) (h : j ≤ a.size) : (a.extract i j).size = j - i := by
  rw [ByteArray.size_extract]; omega
theorem read_ok {a : ByteArray} {s : Int} (h : okB a.size s 1 = true) : ∃ old, readS a s 1 = (old, true) ∧ old.size = 8 := by
  refine ⟨_, by unfold readS; rw [if_pos h], ?_⟩
  have hb := ok_bd h
  rw [size_extract' _ _ _ (by omega)]; omega
theorem read_no {a : ByteArray} {s : Int} (h : okB a.size s 1 = false) : readS a s 1 = (⟨#[]⟩, false) := by unfold readS; rw [if_neg (by simp [h])]
theorem torn_size {d old : ByteArray} (h1 : d.size = 8) (h2 : old.size = 8) : (tornS d old).size = 8 := by
  unfold tornS; rw [ByteArray.size_append, size_extract' _ _ _ (by omega), size_extract' _ _ _ (by omega)]; omega

set_option maxHeartbeats 1000000 in
theorem torn_any (d old : ByteArray) (w : World) (h1 : d.size = 8) (h2 : old.size = 8) :
    Calls Try.prog 28 #[.string d, .string old] w (RetW (.string (tornS d old)) w) := by
  have b1 : (d.size : Int) ≤ 8 := by omega
  have b2 : (4 : Int) ≤ (d.size : Int) := by omega
  have b3 : (old.size : Int) ≤ 8 := by omega
  have b4 : (4 : Int) ≤ (old.size : Int) := by omega
  have n1 : d.size ≤ 8 := by omega
  have n2 : 4 ≤ d.size := by omega
  have n3 : old.size ≤ 8 := by omega
  have n4 : 4 ≤ old.size := by omega
  clear h1 h2
  unfold tornS
  go_enter Try.func28, Try.ntmps28
  go_wp2_with fail
  go_quiet (fail)
  go_wp2
  go_ret
  exact RetW.mk rfl (below_drewN (Below.refl _ _) _)

theorem half_no {a d : ByteArray} {s : Int} (h : okB a.size s 1 = false ∨ ((d.size : Int) == 8) = false) : halfS a s d = (⟨#[]⟩, false) := by
  unfold halfS halfB; rw [if_neg]
  rcases h with h | h <;> simp [h]
theorem half_yes {a d old : ByteArray} {s : Int} (h : okB a.size s 1 = true) (h8 : ((d.size : Int) == 8) = true) (hr : readS a s 1 = (old, true)) : halfS a s d = writeS a s (tornS d old) := by
  unfold halfS halfB; rw [if_pos (by simp only [h, h8]; rfl), hr]

set_option maxHeartbeats 1000000 in
theorem half_any (a : ByteArray) (s : Int) (d : ByteArray) (w : World) (ha : a.size ≤ maxLen) (hd : d.size ≤ maxLen) :
    Calls Try.prog 12 #[.string a, .int .i64 s, .string d] w (RetW (.tuple #[.string (halfS a s d).1, .bool (halfS a s d).2]) w) := by
  have hd' := hd
  unfold maxLen at hd'
  cases h : okB a.size s 1 with
  | false =>
    rw [half_no (Or.inl h)]
    have hr := read_no h
    clear h
    go_enter Try.func12, Try.ntmps12
    go_wp2_with fail
    refine (read_any _ _ _ _ ha).mono ?_
    rintro e w' ⟨rfl, rfl⟩
    go_wp2_with fail
    go_ret2
    exact RetW.mk rfl (Below.refl _ _)
  | true =>
    obtain ⟨old, hr, ho⟩ := read_ok h
    cases h8 : ((d.size : Int) == 8) with
    | false =>
      rw [half_no (Or.inr h8)]
      have h8' : ((d.size : Int) != 8) = true := by simp [bne, h8]
      clear h ho
      go_enter Try.func12, Try.ntmps12
      go_wp2_with fail
      refine (read_any _ _ _ _ ha).mono ?_
      rintro e w' ⟨rfl, rfl⟩
      go_wp2_with fail
      go_ret2
      exact RetW.mk rfl (Below.refl _ _)
    | true =>
      rw [half_yes h h8 hr]
      have d8 : d.size = 8 := by simp at h8; omega
      have hts := torn_size d8 ho
      have HM : Hid ((tornS d old).size ≤ maxLen) := by show _ ≤ maxLen; rw [hts]; unfold maxLen; omega
      have h8' : ((d.size : Int) != 8) = false := by simp [bne, h8]
      have b1 : (d.size : Int) ≤ 8 := by omega
      have b2 : (4 : Int) ≤ (d.size : Int) := by omega
      have b3 : (old.size : Int) ≤ 8 := by omega
      have b4 : (4 : Int) ≤ (old.size : Int) := by omega
      have n1 : d.size ≤ 8 := by omega
      have n2 : 4 ≤ d.size := by omega
      have n3 : old.size ≤ 8 := by omega
      have n4 : 4 ≤ old.size := by omega
      clear h ho d8 hts h8
      unfold tornS at *
      go_enter Try.func12, Try.ntmps12
      go_wp2_with fail
      refine (read_any _ _ _ _ ha).mono ?_
      rintro e w' ⟨rfl, rfl⟩
      go_wp2_with fail
      (first | go_region_with (go_at_call 10; refine (write_any _ _ _ _ ha HM.out).mono ?_; rintro e w' ⟨rfl, hb⟩) | fail)
      all_goals
        go_wp2
        go_ret2
        exact RetW.mk rfl (((Below.refl _ _).drew).trans hb)

set_option maxHeartbeats 1000000 in
theorem rhalf_any (a : ByteArray) (s : Int) (d : ByteArray) (w : World) (ha : a.size ≤ maxLen) (hd : d.size ≤ maxLen) :
    Calls Try.prog 13 #[.string a, .int .i64 s, .string d] w (RetW (.tuple #[.string (halfS a s d).1, .bool (halfS a s d).2]) w) := by
  have hd' := hd
  unfold maxLen at hd'
  cases h8 : ((d.size : Int) == 8) with
  | false =>
    rw [half_no (Or.inr h8)]
    have h8' : ((d.size : Int) != 8) = true := by simp [bne, h8]
    go_enter Try.func13, Try.ntmps13
    go_wp2_with fail
    go_ret2
    exact RetW.mk rfl (Below.refl _ _)
  | true =>
    have h8' : ((d.size : Int) != 8) = false := by simp [bne, h8]
    cases h : okB a.size s 1 with
    | false =>
      rw [half_no (Or.inl h)]
      have hr := read_no h
      clear h h8
      go_enter Try.func13, Try.ntmps13
      go_wp2_with fail
      refine (rread_any _ _ _ _ ha).mono ?_
      rintro e w' ⟨rfl, rfl⟩
      go_wp2_with fail
      go_ret2
      exact RetW.mk rfl (Below.refl _ _)
    | true =>
      obtain ⟨old, hr, ho⟩ := read_ok h
      rw [half_yes h h8 hr]
      have d8 : d.size = 8 := by simp at h8; omega
      have hts := torn_size d8 ho
      have HM : Hid ((tornS d old).size ≤ maxLen) := by show _ ≤ maxLen; rw [hts]; unfold maxLen; omega
      have H1 := Lib.hid d8
      have H2 := Lib.hid ho
      clear h ho d8 hts h8
      go_enter Try.func13, Try.ntmps13
      go_wp2_with fail
      refine (rread_any _ _ _ _ ha).mono ?_
      rintro e w' ⟨rfl, rfl⟩
      go_wp2_with fail
      refine (torn_any _ _ _ H1.out H2.out).mono ?_
      rintro e w1 ⟨rfl, hb1⟩
      go_wp2_with fail
      refine (rwrite_any _ _ _ _ ha HM.out).mono ?_
      rintro e w2 ⟨rfl, hb2⟩
      go_wp2_with fail
      go_ret2
      exact RetW.mk rfl (hb1.trans (hb2.mono hb1.size))

set_option maxHeartbeats 400000 in
theorem dimage_any (n : Int) (c : Nat) (w : World) (hc : c ≤ 1000) : Calls Try.prog 22 #[.int .i64 n, .int .i64 c] w (RetW (.string (dataS n c)) w) := by
  go_enter Try.func22, Try.ntmps22
  go_wp2_with fail
  refine (data_any _ _ _ hc).mono ?_
  rintro e w' ⟨rfl, hb⟩
  go_wp2_with fail
  go_ret
  exact RetW.mk rfl hb
end Go.Proofs.Ytincobjgfclfjaa
