/- Contracts of layer 5: look, Pending, Check. -/
import Derived.Test.YtmbhenafiglakaaObs
import Derived.WalkSmall
namespace Go.Proofs.Ytmbhenafiglakaa
open Go.ChangeShapes Go.WideShapes Go.ChangeAt Go.RowKit

def lookS (c e u : Int) : Int × Int := if wellB c e u = false then (1, u) else if u = c then (0, u) else (e, c)
def LookPost (v u : Int) (b : Nat) (w : World) (e : Ending) (w' : World) : Prop :=
  e = .returned (.int .i64 v) ∧ Below b w w' ∧ w'.cell? ⟨b, 0, none⟩ = some (.int .i64 u) ∧ w'.frozen? ⟨b, 0, none⟩ = false ∧ b < w'.heap.size
theorem well_bd {c e u : Int} (h : wellB c e u = true) : 0 ≤ c ∧ c ≤ 1000000 ∧ 0 ≤ u ∧ u ≤ c := by
  unfold wellB at h; simp at h
  have := right_bd h.1.1
  omega

set_option maxHeartbeats 1000000 in
theorem look_any (c e u : Int) (b : Nat) (w : World) (hb0 : b < w.heap.size) (hu : w.cell? ⟨b, 0, none⟩ = some (.int .i64 u)) (hfz : w.frozen? ⟨b, 0, none⟩ = false) :
    Calls Try.prog 19 #[.pointer (some ⟨b, 0, none⟩), .agg #[.int .i64 c, .int .i64 e]] w (LookPost (lookS c e u).1 (lookS c e u).2 b w) := by
  have hne : b ≠ w.heap.size := by omega
  have hlt : b < w.heap.size + 1 := by omega
  by_cases hr : wellB c e u = true
  · have hbd := well_bd hr
    have h0 : 0 ≤ c := hbd.1
    have h1 : c ≤ 1000000 := hbd.2.1
    clear hbd
    by_cases huc : u = c
    · subst huc
      have hs : lookS u e u = (0, u) := by simp [lookS, hr]
      rw [hs]
      go_enter Try.func19, Try.ntmps19
      go_wp2_with fail
      refine (well_any _ _ u _ _ ?_ ?_).mono ?_
      · exact Nat.lt_of_lt_of_le hb0 (by simp)
      · exact (((Below.refl w.heap.size w).alloc (Nat.le_refl _) _).cell (p := ⟨b, 0, none⟩) hb0).trans hu
      rintro e w' ⟨rfl, hb⟩
      obtain ⟨hc, hf⟩ := bcell hb
      have hy : w.heap.size < w'.heap.size := bnext (B := w.heap.size + 1) hb (by first | assumption | simp)
      go_wp2_with fail
      have hlt2 : b < w'.heap.size := by omega
      have hB : Below w.heap.size w w' := ((Below.refl _ _).alloc (Nat.le_refl _) _).trans (hb.mono (by simp))
      have k1 : w'.cell? ⟨b, 0, none⟩ = some (.int .i64 u) := (hB.cell (p := ⟨b, 0, none⟩) hb0).trans hu
      have k2 : w'.frozen? ⟨b, 0, none⟩ = false := (hB.frozen (p := ⟨b, 0, none⟩) hb0).trans hfz
      go_quiet (fail)
      go_wp2
      go_ret
      refine ⟨rfl, ?_, by simp [k1], by simp [k2], by simp [hlt2]⟩
      first | exact below_drewN (hB.mono (Nat.le_of_lt hb0)) _ | exact hB.mono (Nat.le_of_lt hb0)
    · have hs : lookS c e u = (e, c) := by simp [lookS, hr, huc]
      have hn : (u == c) = false := by simpa using huc
      clear huc
      rw [hs]
      go_enter Try.func19, Try.ntmps19
      go_wp2_with fail
      refine (well_any _ _ u _ _ ?_ ?_).mono ?_
      · exact Nat.lt_of_lt_of_le hb0 (by simp)
      · exact (((Below.refl w.heap.size w).alloc (Nat.le_refl _) _).cell (p := ⟨b, 0, none⟩) hb0).trans hu
      rintro e w' ⟨rfl, hb⟩
      obtain ⟨hc, hf⟩ := bcell hb
      have hy : w.heap.size < w'.heap.size := bnext (B := w.heap.size + 1) hb (by first | assumption | simp)
      go_wp2_with fail
      have hlt2 : b < w'.heap.size := by omega
      have hB : Below w.heap.size w w' := ((Below.refl _ _).alloc (Nat.le_refl _) _).trans (hb.mono (by simp))
      have k1 : w'.cell? ⟨b, 0, none⟩ = some (.int .i64 u) := (hB.cell (p := ⟨b, 0, none⟩) hb0).trans hu
      have k2 : w'.frozen? ⟨b, 0, none⟩ = false := (hB.frozen (p := ⟨b, 0, none⟩) hb0).trans hfz
      go_quiet (fail)
      go_wp2
      go_ret
      refine ⟨rfl, ?_, ?_, ?_, by simp [hlt2]⟩
      · refine Below.setCell (p := ⟨b, 0, none⟩) ?_ (Nat.le_refl b) _
        first | exact below_drewN (hB.mono (Nat.le_of_lt hb0)) _ | exact hB.mono (Nat.le_of_lt hb0)
      · exact World.cell?_setCell_same _ _ _ (u := .int .i64 u) k1
      · rw [World.frozen?_setCell]; exact k2
  · have hr : wellB c e u = false := by simpa using hr
    have hs : lookS c e u = (1, u) := by simp [lookS, hr]
    rw [hs]
    go_enter Try.func19, Try.ntmps19
    go_wp2_with fail
    refine (well_any _ _ u _ _ ?_ ?_).mono ?_
    · exact Nat.lt_of_lt_of_le hb0 (by simp)
    · exact (((Below.refl w.heap.size w).alloc (Nat.le_refl _) _).cell (p := ⟨b, 0, none⟩) hb0).trans hu
    rintro e w' ⟨rfl, hb⟩
    obtain ⟨hc, hf⟩ := bcell hb
    have hy : w.heap.size < w'.heap.size := bnext (B := w.heap.size + 1) hb (by first | assumption | simp)
    go_wp2_with fail
    go_ret
    have hlt2 : b < w'.heap.size := by omega
    have hB : Below w.heap.size w w' := ((Below.refl _ _).alloc (Nat.le_refl _) _).trans (hb.mono (by simp))
    refine ⟨rfl, hB.mono (by omega), (hB.cell (p := ⟨b, 0, none⟩) hb0).trans hu, (hB.frozen (p := ⟨b, 0, none⟩) hb0).trans hfz, hlt2⟩

def penB (c e u : Int) : Bool := wellB c e u && decide (u < c)
set_option maxHeartbeats 1000000 in
theorem pending_any (c e u : Int) (w : World) :
    Calls Try.prog 12 #[.agg #[.int .i64 c, .int .i64 e], .int .i64 u] w (RetW (.bool (penB c e u)) w) := by
  unfold penB
  by_cases hr : wellB c e u = true
  · go_enter Try.func12, Try.ntmps12
    go_wp2_with fail
    refine (well_any _ _ u _ _ ?_ ?_).mono ?_
    · simp
    · simp
    rintro e w' ⟨rfl, hb⟩
    obtain ⟨hc, hf⟩ := bcell hb
    have hy : w.heap.size < w'.heap.size := bnext (B := w.heap.size + 1) hb (by first | assumption | simp)
    go_wp2_with fail
    go_ret
    refine RetW.mk (by simp [hr]) ?_
    exact (((Below.refl _ _).alloc (Nat.le_refl _) _).alloc (by simp) _).trans (hb.mono (by simp; omega))
  · have hr : wellB c e u = false := by simpa using hr
    go_enter Try.func12, Try.ntmps12
    go_wp2_with fail
    refine (well_any _ _ u _ _ ?_ ?_).mono ?_
    · simp
    · simp
    rintro e w' ⟨rfl, hb⟩
    go_wp2_with fail
    go_ret
    refine RetW.mk (by simp [hr]) ?_
    exact (((Below.refl _ _).alloc (Nat.le_refl _) _).alloc (by simp) _).trans (hb.mono (by simp; omega))

set_option maxHeartbeats 1000000 in
theorem check_any (c e u : Int) (w : World) :
    Calls Try.prog 8 #[.agg #[.int .i64 c, .int .i64 e], .int .i64 u] w (RetW (.tuple #[.int .i64 (lookS c e u).1, .int .i64 (lookS c e u).2]) w) := by
  go_enter Try.func8, Try.ntmps8
  go_wp2_with fail
  refine (look_any _ _ u _ _ ?_ ?_ ?_).mono ?_
  · simp
  · simp
  · simp
  rintro e w' ⟨rfl, hb, k1, k2, hlt⟩
  go_wp2_with fail
  go_quiet (fail)
  go_wp2
  go_ret2
  refine RetW.mk rfl ?_
  refine below_drewN ?_ _
  exact (((Below.refl _ _).alloc (Nat.le_refl _) _).alloc (by simp) _).trans (hb.mono (by simp))

def rpenB (c e u : Int) : Bool := rightB c e && decide (0 ≤ u) && decide (u < c)
set_option maxHeartbeats 1000000 in
theorem rpending_any (c e u : Int) (w : World) :
    Calls Try.prog 13 #[.agg #[.int .i64 c, .int .i64 e], .int .i64 u] w (RetW (.bool (rpenB c e u)) w) := by
  unfold rpenB
  by_cases hr : rightB c e = true
  · go_enter Try.func13, Try.ntmps13
    go_wp2_with fail
    refine (rright_any _ _ _).mono ?_
    rintro e w' ⟨rfl, hb⟩
    obtain ⟨hc, hf⟩ := bcell hb
    have hy : w.heap.size < w'.heap.size := bnext (B := w.heap.size + 1) hb (by first | assumption | simp)
    go_wp2_with fail
    all_goals
      go_ret
      refine RetW.mk (by simp [*]; try omega) ?_
      exact ((Below.refl _ _).alloc (Nat.le_refl _) _).trans (hb.mono (by simp))
  · have hr : rightB c e = false := by simpa using hr
    go_enter Try.func13, Try.ntmps13
    go_wp2_with fail
    refine (rright_any _ _ _).mono ?_
    rintro e w' ⟨rfl, hb⟩
    go_wp2_with fail
    go_ret
    refine RetW.mk (by simp [hr]) ?_
    exact ((Below.refl _ _).alloc (Nat.le_refl _) _).trans (hb.mono (by simp))

theorem wellB_of {c e u : Int} (hr : rightB c e = true) (h0 : 0 ≤ u) (h1 : u ≤ c) : wellB c e u = true := by unfold wellB; simp [hr, h0, h1]
theorem wellB_no {c e u : Int} (h : rightB c e = false ∨ u < 0 ∨ c < u) : wellB c e u = false := by
  unfold wellB
  rcases h with h | h | h
  · simp [h]
  · simp; omega
  · simp; omega

set_option maxHeartbeats 2000000 in
theorem rcheck_any (c e u : Int) (w : World) :
    Calls Try.prog 9 #[.agg #[.int .i64 c, .int .i64 e], .int .i64 u] w (RetW (.tuple #[.int .i64 (lookS c e u).1, .int .i64 (lookS c e u).2]) w) := by
  by_cases hr : rightB c e = true
  · by_cases h0 : u < 0
    · have hs : lookS c e u = (1, u) := by unfold lookS; rw [if_pos (wellB_no (by omega))]
      rw [hs]
      go_enter Try.func9, Try.ntmps9
      go_wp2_with fail
      refine (rright_any _ _ _).mono ?_
      rintro e1 w1 ⟨rfl, hb1⟩
      obtain ⟨hc1, hf1⟩ := bcell hb1
      have hy1 : w.heap.size < w1.heap.size := bnext (B := w.heap.size + 1) hb1 (by first | assumption | simp)
      go_wp2_with fail
      go_ret2
      refine RetW.mk rfl ?_
      exact ((Below.refl _ _).alloc (Nat.le_refl _) _).trans (hb1.mono (by simp))
    · by_cases h1 : c < u
      · have hs : lookS c e u = (1, u) := by unfold lookS; rw [if_pos (wellB_no (by omega))]
        rw [hs]
        go_enter Try.func9, Try.ntmps9
        go_wp2_with fail
        refine (rright_any _ _ _).mono ?_
        rintro e1 w1 ⟨rfl, hb1⟩
        obtain ⟨hc1, hf1⟩ := bcell hb1
        have hy1 : w.heap.size < w1.heap.size := bnext (B := w.heap.size + 1) hb1 (by first | assumption | simp)
        go_wp2_with fail
        go_ret2
        refine RetW.mk rfl ?_
        exact ((Below.refl _ _).alloc (Nat.le_refl _) _).trans (hb1.mono (by simp))
      · have hw := wellB_of hr (by omega : 0 ≤ u) (by omega : u ≤ c)
        by_cases h2 : u < c
        · have hs : lookS c e u = (e, c) := by unfold lookS; rw [if_neg (by simp [hw]), if_neg (by omega)]
          have hp : rpenB c e u = true := by unfold rpenB; simp [hr]; omega
          clear hw
          rw [hs]
          go_enter Try.func9, Try.ntmps9
          go_wp2_with fail
          refine (rright_any _ _ _).mono ?_
          rintro e1 w1 ⟨rfl, hb1⟩
          obtain ⟨hc1, hf1⟩ := bcell hb1
          have hy1 : w.heap.size < w1.heap.size := bnext (B := w.heap.size + 1) hb1 (by first | assumption | simp)
          go_wp2_with fail
          refine (rpending_any _ _ _ _).mono ?_
          rintro e2 w2 ⟨rfl, hb2⟩
          obtain ⟨hc2, hf2⟩ := bcell hb2
          have hy2 : w.heap.size < w2.heap.size := bnext (B := w.heap.size + 1) hb2 (by first | assumption | simp)
          go_wp2_with fail
          go_quiet (fail)
          go_wp2
          go_ret2
          refine RetW.mk rfl (below_drewN ?_ _)
          exact (((Below.refl _ _).alloc (Nat.le_refl _) _).trans (hb1.mono (by simp))).trans (hb2.mono (Nat.le_of_lt hy1))
        · have hs : lookS c e u = (0, u) := by unfold lookS; rw [if_neg (by simp [hw]), if_pos (by omega)]
          have hp : rpenB c e u = false := by unfold rpenB; simp [hr]; omega
          clear hw
          rw [hs]
          go_enter Try.func9, Try.ntmps9
          go_wp2_with fail
          refine (rright_any _ _ _).mono ?_
          rintro e1 w1 ⟨rfl, hb1⟩
          obtain ⟨hc1, hf1⟩ := bcell hb1
          have hy1 : w.heap.size < w1.heap.size := bnext (B := w.heap.size + 1) hb1 (by first | assumption | simp)
          go_wp2_with fail
          refine (rpending_any _ _ _ _).mono ?_
          rintro e2 w2 ⟨rfl, hb2⟩
          obtain ⟨hc2, hf2⟩ := bcell hb2
          have hy2 : w.heap.size < w2.heap.size := bnext (B := w.heap.size + 1) hb2 (by first | assumption | simp)
          go_wp2_with fail
          go_ret2
          refine RetW.mk rfl ?_
          exact (((Below.refl _ _).alloc (Nat.le_refl _) _).trans (hb1.mono (by simp))).trans (hb2.mono (Nat.le_of_lt hy1))
  · have hr : rightB c e = false := by simpa using hr
    have hs : lookS c e u = (1, u) := by unfold lookS; rw [if_pos (wellB_no (Or.inl hr))]
    rw [hs]
    go_enter Try.func9, Try.ntmps9
    go_wp2_with fail
    refine (rright_any _ _ _).mono ?_
    rintro e1 w1 ⟨rfl, hb1⟩
    obtain ⟨hc1, hf1⟩ := bcell hb1
    have hy1 : w.heap.size < w1.heap.size := bnext (B := w.heap.size + 1) hb1 (by first | assumption | simp)
    go_wp2_with fail
    go_ret2
    refine RetW.mk rfl ?_
    exact ((Below.refl _ _).alloc (Nat.le_refl _) _).trans (hb1.mono (by simp))

theorem pen_eq (c e u : Int) : rpenB c e u = penB c e u := by
  unfold rpenB penB wellB
  by_cases h : u < c
  · have : u ≤ c := by omega
    simp [h, this]
  · simp [h]
end Go.Proofs.Ytmbhenafiglakaa
