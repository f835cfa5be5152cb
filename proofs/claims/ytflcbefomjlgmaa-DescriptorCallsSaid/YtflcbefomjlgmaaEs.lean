/- Sequences of errors, as far as cursors go. -/
import Derived.Test.YtflcbefomjlgmaaTapO
set_option linter.unusedSimpArgs false
set_option linter.unusedVariables false
namespace Go.Proofs.Ytflcbefomjlgmaa
open Go.ChangeShapes Go.WideShapes Go.ChangeAt Go.RowKit

/-- a sequence is right -/
def rightB (c e : Int) : Bool := decide (0 ≤ c) && decide (c ≤ 1000000) && ((c == 0) == (e == 0))

set_option maxHeartbeats 400000 in
theorem right_any (c e : Int) (w : World) :
    Calls Try.prog 50 #[.agg #[.int .i64 c, .int .i64 e]] w (RetW (.bool (rightB c e)) w) := by
  go_enter Try.func50, Try.ntmps50
  go_wp2
  all_goals
    go_ret
    refine RetW.mk (by unfold rightB; simp [*]; try omega) ?_
    exact (Below.refl _ _).alloc (Nat.le_refl _) _
theorem right_bd {c e : Int} (h : rightB c e = true) : 0 ≤ c ∧ c ≤ 1000000 ∧ (c = 0 ↔ e = 0) := by
  unfold rightB at h; simp at h
  refine ⟨h.1.1, h.1.2, ?_⟩
  have := h.2
  by_cases h1 : c = 0 <;> by_cases h2 : e = 0 <;> simp_all

def wellB (c e u : Int) : Bool := rightB c e && decide (0 ≤ u) && decide (u ≤ c)
set_option maxHeartbeats 1000000 in
theorem well_any (c e u : Int) (b : Nat) (w : World) (hb0 : b < w.heap.size) (hu : w.cell? ⟨b, 0, none⟩ = some (.int .i64 u)) :
    Calls Try.prog 49 #[.pointer (some ⟨b, 0, none⟩), .agg #[.int .i64 c, .int .i64 e]] w (RetW (.bool (wellB c e u)) w) := by
  unfold wellB
  have hne : b ≠ w.heap.size := by omega
  have hlt : b < w.heap.size + 1 := by omega
  by_cases hr : rightB c e = true
  · by_cases hu0 : 0 ≤ u
    · have hd : decide (0 ≤ u) = true := by simpa using hu0
      go_enter Try.func49, Try.ntmps49
      go_wp2_with fail
      go_region_held3 (fun w' => w'.cell? ⟨b, 0, none⟩ = some (.int .i64 u) ∧ w'.cell? ⟨w.heap.size, 0, none⟩ = some (.int .i64 c) ∧ w'.cell? ⟨w.heap.size, 1, none⟩ = some (.int .i64 e)) (go_keep) (first | (go_at_call 50; refine (right_any _ _ _).mono ?_; rintro e w' ⟨rfl, hb⟩; obtain ⟨hc, hf⟩ := bcell hb; have hy : w.heap.size < w'.heap.size := bnext (B := w.heap.size + 1) hb (by first | assumption | simp)))
      all_goals
        go_wp2
        go_ret
        refine RetW.mk (by simp [Act.put, *]; try omega) ?_
        repeat (first | exact Below.refl _ _ | (refine Below.drew ?_) | (refine Below.setCell ?_ (by simp) _) | (refine Below.alloc ?_ (by first | (simp; done) | (simp; omega)) _) | refine Below.trans ?_ (Below.mono (by assumption) (by first | omega | (simp; done) | (simp; omega))))
    · have hd : decide (0 ≤ u) = false := by simpa using hu0
      go_enter Try.func49, Try.ntmps49
      go_wp2_with fail
      (first | go_region_with (go_at_call 50; refine (right_any _ _ _).mono ?_; rintro e w' ⟨rfl, hb⟩; obtain ⟨hc, hf⟩ := bcell hb; have hy : w.heap.size < w'.heap.size := bnext (B := w.heap.size + 1) hb (by first | assumption | simp)) | fail)
      all_goals
        go_wp2
        go_ret
        refine RetW.mk (by simp [Act.put, *]; try omega) ?_
        repeat (first | exact Below.refl _ _ | (refine Below.drew ?_) | (refine Below.setCell ?_ (by simp) _) | (refine Below.alloc ?_ (by first | (simp; done) | (simp; omega)) _) | refine Below.trans ?_ (Below.mono (by assumption) (by first | omega | (simp; done) | (simp; omega))))
  · have hr : rightB c e = false := by simpa using hr
    go_enter Try.func49, Try.ntmps49
    go_wp2_with fail
    (first | go_region_with (go_at_call 50; refine (right_any _ _ _).mono ?_; rintro e w' ⟨rfl, hb⟩; obtain ⟨hc, hf⟩ := bcell hb; have hy : w.heap.size < w'.heap.size := bnext (B := w.heap.size + 1) hb (by first | assumption | simp)) | fail)
    all_goals
      go_wp2
      go_ret
      refine RetW.mk (by simp [Act.put, *]; try omega) ?_
      repeat (first | exact Below.refl _ _ | (refine Below.drew ?_) | (refine Below.setCell ?_ (by simp) _) | (refine Below.alloc ?_ (by first | (simp; done) | (simp; omega)) _) | refine Below.trans ?_ (Below.mono (by assumption) (by first | omega | (simp; done) | (simp; omega))))

def lookS (c e u : Int) : Int × Int := if wellB c e u = false then (1, u) else if u = c then (0, u) else (e, c)
def LookPost (v u : Int) (b : Nat) (w : World) (e : Ending) (w' : World) : Prop :=
  e = .returned (.int .i64 v) ∧ Below b w w' ∧ w'.cell? ⟨b, 0, none⟩ = some (.int .i64 u) ∧ w'.frozen? ⟨b, 0, none⟩ = false ∧ b < w'.heap.size
theorem well_bd {c e u : Int} (h : wellB c e u = true) : 0 ≤ c ∧ c ≤ 1000000 ∧ 0 ≤ u ∧ u ≤ c := by
  unfold wellB at h; simp at h
  have := right_bd h.1.1
  omega

set_option maxHeartbeats 1000000 in
theorem look_any (c e u : Int) (b : Nat) (w : World) (hb0 : b < w.heap.size) (hu : w.cell? ⟨b, 0, none⟩ = some (.int .i64 u)) (hfz : w.frozen? ⟨b, 0, none⟩ = false) :
    Calls Try.prog 48 #[.pointer (some ⟨b, 0, none⟩), .agg #[.int .i64 c, .int .i64 e]] w (LookPost (lookS c e u).1 (lookS c e u).2 b w) := by
  have hne : b ≠ w.heap.size := by omega
  have hlt : b < w.heap.size + 1 := by omega
  by_cases hr : wellB c e u = true
  · have hbd := well_bd hr
    have h0 : 0 ≤ c := hbd.1
    have h1 : c ≤ 1000000 := hbd.2.1
    clear hbd
    by_cases huc : u = c
    · subst huc
      have hs : lookS u e u = (0, u) := by simp [lookS, hr]
      rw [hs]
      go_enter Try.func48, Try.ntmps48
      go_wp2_with fail
      refine (well_any _ _ u _ _ ?_ ?_).mono ?_
      · exact Nat.lt_of_lt_of_le hb0 (by simp)
      · exact (((Below.refl w.heap.size w).alloc (Nat.le_refl _) _).cell (p := ⟨b, 0, none⟩) hb0).trans hu
      rintro e w' ⟨rfl, hb⟩
      obtain ⟨hc, hf⟩ := bcell hb
      have hy : w.heap.size < w'.heap.size := bnext (B := w.heap.size + 1) hb (by first | assumption | simp)
      go_wp2_with fail
      have hlt2 : b < w'.heap.size := by omega
      have hB : Below w.heap.size w w' := ((Below.refl _ _).alloc (Nat.le_refl _) _).trans (hb.mono (by simp))
      have k1 : w'.cell? ⟨b, 0, none⟩ = some (.int .i64 u) := (hB.cell (p := ⟨b, 0, none⟩) hb0).trans hu
      have k2 : w'.frozen? ⟨b, 0, none⟩ = false := (hB.frozen (p := ⟨b, 0, none⟩) hb0).trans hfz
      go_quiet (fail)
      go_wp2
      go_ret
      refine ⟨rfl, ?_, by simp [k1], by simp [k2], by simp [hlt2]⟩
      first | exact below_drewN (hB.mono (Nat.le_of_lt hb0)) _ | exact hB.mono (Nat.le_of_lt hb0)
    · have hs : lookS c e u = (e, c) := by simp [lookS, hr, huc]
      have hn : (u == c) = false := by simpa using huc
      clear huc
      rw [hs]
      go_enter Try.func48, Try.ntmps48
      go_wp2_with fail
      refine (well_any _ _ u _ _ ?_ ?_).mono ?_
      · exact Nat.lt_of_lt_of_le hb0 (by simp)
      · exact (((Below.refl w.heap.size w).alloc (Nat.le_refl _) _).cell (p := ⟨b, 0, none⟩) hb0).trans hu
      rintro e w' ⟨rfl, hb⟩
      obtain ⟨hc, hf⟩ := bcell hb
      have hy : w.heap.size < w'.heap.size := bnext (B := w.heap.size + 1) hb (by first | assumption | simp)
      go_wp2_with fail
      have hlt2 : b < w'.heap.size := by omega
      have hB : Below w.heap.size w w' := ((Below.refl _ _).alloc (Nat.le_refl _) _).trans (hb.mono (by simp))
      have k1 : w'.cell? ⟨b, 0, none⟩ = some (.int .i64 u) := (hB.cell (p := ⟨b, 0, none⟩) hb0).trans hu
      have k2 : w'.frozen? ⟨b, 0, none⟩ = false := (hB.frozen (p := ⟨b, 0, none⟩) hb0).trans hfz
      go_quiet (fail)
      go_wp2
      go_ret
      refine ⟨rfl, ?_, ?_, ?_, by simp [hlt2]⟩
      · refine Below.setCell (p := ⟨b, 0, none⟩) ?_ (Nat.le_refl b) _
        first | exact below_drewN (hB.mono (Nat.le_of_lt hb0)) _ | exact hB.mono (Nat.le_of_lt hb0)
      · exact World.cell?_setCell_same _ _ _ (u := .int .i64 u) k1
      · rw [World.frozen?_setCell]; exact k2
  · have hr : wellB c e u = false := by simpa using hr
    have hs : lookS c e u = (1, u) := by simp [lookS, hr]
    rw [hs]
    go_enter Try.func48, Try.ntmps48
    go_wp2_with fail
    refine (well_any _ _ u _ _ ?_ ?_).mono ?_
    · exact Nat.lt_of_lt_of_le hb0 (by simp)
    · exact (((Below.refl w.heap.size w).alloc (Nat.le_refl _) _).cell (p := ⟨b, 0, none⟩) hb0).trans hu
    rintro e w' ⟨rfl, hb⟩
    obtain ⟨hc, hf⟩ := bcell hb
    have hy : w.heap.size < w'.heap.size := bnext (B := w.heap.size + 1) hb (by first | assumption | simp)
    go_wp2_with fail
    go_ret
    have hlt2 : b < w'.heap.size := by omega
    have hB : Below w.heap.size w w' := ((Below.refl _ _).alloc (Nat.le_refl _) _).trans (hb.mono (by simp))
    refine ⟨rfl, hB.mono (by omega), (hB.cell (p := ⟨b, 0, none⟩) hb0).trans hu, (hB.frozen (p := ⟨b, 0, none⟩) hb0).trans hfz, hlt2⟩

set_option maxHeartbeats 1000000 in
theorem check_any (c e u : Int) (w : World) :
    Calls Try.prog 46 #[.agg #[.int .i64 c, .int .i64 e], .int .i64 u] w (RetW (.tuple #[.int .i64 (lookS c e u).1, .int .i64 (lookS c e u).2]) w) := by
  go_enter Try.func46, Try.ntmps46
  go_wp2_with fail
  refine (look_any _ _ u _ _ ?_ ?_ ?_).mono ?_
  · simp
  · simp
  · simp
  rintro e w' ⟨rfl, hb, k1, k2, hlt⟩
  go_wp2_with fail
  go_quiet (fail)
  go_wp2
  go_ret2
  refine RetW.mk rfl ?_
  refine below_drewN ?_ _
  exact (((Below.refl _ _).alloc (Nat.le_refl _) _).alloc (by simp) _).trans (hb.mono (by simp))


def curB (n : Int) : Bool := decide (0 ≤ n ∧ n ≤ 1000000)
theorem cur_look (e n : Int) (he : e ≠ 1) (h0 : e ≠ 0) : (!((lookS 1000000 e n).1 == 1)) = curB n := by
  have hr : rightB 1000000 e = true := by simp [rightB, h0]
  unfold lookS wellB curB
  rw [hr]
  by_cases h1 : 0 ≤ n <;> by_cases h2 : n ≤ 1000000 <;> simp [h1, h2] <;> (try split) <;> simp_all
end Go.Proofs.Ytflcbefomjlgmaa
