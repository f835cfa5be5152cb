/- New pages: the program's and the document's; the tape's numbers about limits and its strings; the page that it makes. -/
import Derived.Test.YthimcidkmnobnaaFir
import Derived.Test.YthimcidkmnobnaaShelf
namespace Go.Proofs.Ythimcidkmnobnaa
open Go.ChangeShapes Go.WideShapes Go.ChangeAt Go.RowKit

theorem rep_zero (c : Nat) : Lib.repeatL [0] c = List.replicate c (0 : UInt8) := by
  induction c with
  | zero => rfl
  | succ n ih => simp [Lib.repeatL, ih, List.replicate_succ]
theorem repeat_any (n : Int) (w : World) (h0 : 0 ≤ n) (h1 : n ≤ 1000000) :
    Calls Try.prog 40 #[.string ⟨#[0]⟩, .int .i64 n] w (RetW (.string (zeros n.toNat)) w) := by
  obtain ⟨c, rfl⟩ := Int.eq_ofNat_of_zero_le h0
  refine (Try.strings_Repeat ⟨#[0]⟩ c w (by omega) (by show 1 * c ≤ _; omega)).mono ?_
  rintro e w' ⟨rfl, hb⟩
  refine ⟨?_, hb⟩
  show Ending.returned (.string ⟨(Lib.repeatL [0] c).toArray⟩) = _
  rw [rep_zero]; rfl
theorem new_any (w : World) : Calls Try.prog 18 #[] w (RetW (Pg.val ⟨zeros 16, 0, 0⟩) w) := by
  have hz : zeros (16 : Int).toNat = zeros 16 := rfl
  have HZ := Lib.hid hz
  clear hz
  have hrep := fun w => repeat_any 16 w (by omega) (by omega)
  rw [HZ.out] at hrep
  generalize zeros 16 = z at *
  have HP := Lib.hid hrep
  clear hrep
  go_enter Try.func18, Try.ntmps18
  go_wp2_with (go_at_call 40; refine (HP.out _).mono ?_; rintro e w' ⟨rfl, hb⟩; obtain ⟨hcc, hff⟩ := bcell hb; have hz : w.heap.size < w'.heap.size := (by have := hb.size; simp at this; omega))
  refine bodyPost_ret (v := .agg #[.string z, .int .i64 0, .int .i64 0]) (by simp [results, Try.results18, go_sem, hcc, hz]) rfl ⟨rfl, ?_⟩
  have h1 : Below w.heap.size w w' := ((Below.refl _ _).alloc (Nat.le_refl _) _).trans (hb.mono (by simp))
  exact (((h1.setCell (p := ⟨w.heap.size, 0, none⟩) (by simp) _).setCell (p := ⟨w.heap.size, 1, none⟩) (by simp) _).setCell (p := ⟨w.heap.size, 2, none⟩) (by simp) _)
theorem newR_any (w : World) : Calls Try.prog 19 #[] w (RetW (Pg.val ⟨zeros 16, 0, 0⟩) w) := by
  have hmk := fun w => make_bytes 16 (by omega) (by omega) w
  have hcv := conv_zeros 16 (w.alloc (.cells #[.string ⟨#[]⟩, .int .i64 0, .int .i64 0] 27))
  rw [show (w.alloc (.cells #[.string ⟨#[]⟩, .int .i64 0, .int .i64 0] 27)).heap.size = w.heap.size + 1 from by simp] at hcv
  rw [show (16 : Int).toNat = 16 from rfl] at hmk
  generalize zeros 16 = z at *
  go_enter Try.func19, Try.ntmps19
  go_wp2_with fail
  refine bodyPost_ret (v := .agg #[.string z, .int .i64 0, .int .i64 0]) (by simp [results, Try.results19, go_sem]) rfl ⟨rfl, ?_⟩
  first
  | exact ((Below.refl _ _).alloc (Nat.le_refl _) _).alloc (by simp) _
  | exact (((((Below.refl _ _).alloc (Nat.le_refl _) _).alloc (by simp) _).setCell (p := ⟨w.heap.size, 0, none⟩) (by simp) _).setCell (p := ⟨w.heap.size, 1, none⟩) (by simp) _).setCell (p := ⟨w.heap.size, 2, none⟩) (by simp) _
theorem holeR_any (w : World) : Calls Try.prog 21 #[] w (RetW (Pg.val ⟨zeros 16, 3, 0⟩) w) := by
  have hmk := fun w => make_bytes 16 (by omega) (by omega) w
  have hcv := conv_zeros 16 (w.alloc (.cells #[.string ⟨#[]⟩, .int .i64 0, .int .i64 0] 27))
  rw [show (w.alloc (.cells #[.string ⟨#[]⟩, .int .i64 0, .int .i64 0] 27)).heap.size = w.heap.size + 1 from by simp] at hcv
  rw [show (16 : Int).toNat = 16 from rfl] at hmk
  generalize zeros 16 = z at *
  go_enter Try.func21, Try.ntmps21
  go_wp2_with fail
  refine bodyPost_ret (v := .agg #[.string z, .int .i64 3, .int .i64 0]) (by simp [results, Try.results21, go_sem]) rfl ⟨rfl, ?_⟩
  first
  | exact ((Below.refl _ _).alloc (Nat.le_refl _) _).alloc (by simp) _
  | exact (((((Below.refl _ _).alloc (Nat.le_refl _) _).alloc (by simp) _).setCell (p := ⟨w.heap.size, 0, none⟩) (by simp) _).setCell (p := ⟨w.heap.size, 1, none⟩) (by simp) _).setCell (p := ⟨w.heap.size, 2, none⟩) (by simp) _
theorem hole_any (w : World) : Calls Try.prog 20 #[] w (RetW (Pg.val ⟨zeros 16, 3, 0⟩) w) := by
  have HP := Lib.hid new_any
  unfold Pg.val at HP ⊢
  simp only at HP ⊢
  generalize zeros 16 = z at *
  go_enter Try.func20, Try.ntmps20
  go_wp2_with (go_at_call 18; refine (HP.out _).mono ?_; rintro e w' ⟨rfl, hb⟩; obtain ⟨hcc, hff⟩ := bcell hb; have hz : w.heap.size < w'.heap.size := (by have := hb.size; simp at this; omega))
  refine bodyPost_ret (v := .agg #[.string z, .int .i64 3, .int .i64 0]) (by simp [results, Try.results20, go_sem, hcc, hz]) rfl ⟨rfl, ?_⟩
  have h1 : Below w.heap.size w w' := ((Below.refl _ _).alloc (Nat.le_refl _) _).trans (hb.mono (by simp))
  exact (((h1.setCell (p := ⟨w.heap.size, 0, none⟩) (by simp) _).setCell (p := ⟨w.heap.size, 1, none⟩) (by simp) _).setCell (p := ⟨w.heap.size, 2, none⟩) (by simp) _).alloc (by simp [World.setCell]; omega) _
end Go.Proofs.Ythimcidkmnobnaa
