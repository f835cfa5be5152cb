/- What has to be filled first, and what is read: the program's answer and the document's. -/
import Derived.Test.YthimcidkmnobnaaTch
import Derived.Test.YthimcidkmnobnaaChk
namespace Go.Proofs.Ythimcidkmnobnaa
open Go.ChangeShapes Go.WideShapes Go.ChangeAt Go.RowKit

def rng (off n : Int) : Bool := decide (0 ≤ off ∧ 0 ≤ n ∧ off ≤ 16 ∧ n ≤ 16 - off)
def needS (off n : Int) (wr : Bool) : Int := if wr = true then bits .andNot .i64 (sb (tA off n) (tB off n)) (sb (cA off n) (cB off n)) else sb (tA off n) (tB off n)
def needV (p : Pg) (off n : Int) (wr : Bool) : Int × Int := if chk p = true then (if rng off n = true then (bits .andNot .i64 (needS off n wr) p.v, 0) else (0, 2)) else (0, 1)
def readyV (p : Pg) (off n : Int) (wr : Bool) : Int := if (needV p off n wr).2 = 0 then (if (needV p off n wr).1 = 0 then 0 else 7) else (needV p off n wr).2
def readV (p : Pg) (off n : Int) : ByteArray × Int := if readyV p off n false = 0 then (p.d.extract off.toNat (off + n).toNat, 0) else (⟨#[]⟩, readyV p off n false)
theorem rng_iff {off n : Int} : rng off n = true ↔ (0 ≤ off ∧ 0 ≤ n ∧ off ≤ 16 ∧ n ≤ 16 - off) := by simp [rng]
theorem needV_e (p : Pg) (off n : Int) (wr : Bool) : (needV p off n wr).2 = 0 ∨ (needV p off n wr).2 = 1 ∨ (needV p off n wr).2 = 2 := by
  unfold needV; split
  · split <;> simp
  · simp
theorem ready_zero {p : Pg} {off n : Int} {wr : Bool} (h : readyV p off n wr = 0) : chk p = true ∧ rng off n = true ∧ bits .andNot .i64 (needS off n wr) p.v = 0 := by
  unfold readyV needV at h
  by_cases c : chk p = true
  · by_cases r : rng off n = true
    · simp [c, r] at h
      exact ⟨c, r, h⟩
    · simp [c, r] at h
  · simp [c] at h
theorem chk_size {p : Pg} (h : chk p = true) : p.d.size = 16 := by
  simp only [chk, Bool.and_eq_true, decide_eq_true_eq] at h
  exact h.1.1.1

set_option maxHeartbeats 2000000 in
theorem needs_any (p : Pg) (off n : Int) (wr : Bool) (w : World) (hd : p.d.size ≤ maxLen) :
    Calls Try.prog 12 #[p.val, .int .i64 off, .int .i64 n, .bool wr] w (RetW (.tuple #[.int .i64 (needV p off n wr).1, .int .i64 (needV p off n wr).2]) w) := by
  have HV : Hid (needV p off n wr = if chk p = true then (if rng off n = true then (bits .andNot .i64 (needS off n wr) p.v, 0) else (0, 2)) else (0, 1)) := rfl
  generalize needV p off n wr = r at HV
  have hch := check_any p
  obtain ⟨d, v, e⟩ := p
  simp only [Pg.val] at hch hd HV ⊢
  have HC := Lib.hid hch; clear hch
  cases hc : chk ⟨d, v, e⟩ with
  | false =>
    rw [hc] at HC HV
    have HR : Hid (r = (0, 1)) := by rw [HV.out]; rfl
    clear hc HV
    go_enter Try.func12, Try.ntmps12
    go_wp2_with (go_at_call 16; refine (HC.out _ hd).mono ?_; rintro e w' ⟨rfl, hb⟩)
    go_ret2
    rw [HR.out]
    exact ⟨rfl, ((Below.refl _ _).alloc (Nat.le_refl _) _).trans (hb.mono (by simp))⟩
  | true =>
    rw [hc] at HC HV
    cases hr : rng off n with
    | false =>
      rw [hr] at HV
      have HR : Hid (r = (0, 2)) := by rw [HV.out]; rfl
      have hr' : ¬ (0 ≤ off ∧ 0 ≤ n ∧ off ≤ 16 ∧ n ≤ 16 - off) := by rw [← rng_iff, hr]; simp
      have HR' := Lib.hid hr'
      clear hc hr HV hr'
      go_enter Try.func12, Try.ntmps12
      go_wp2_with (go_at_call 16; refine (HC.out _ hd).mono ?_; rintro e w' ⟨rfl, hb⟩)
      all_goals
        first
        | (exfalso; have := HR'.out; omega)
        | (go_ret2
           rw [HR.out]
           exact ⟨rfl, ((Below.refl _ _).alloc (Nat.le_refl _) _).trans (hb.mono (by simp))⟩)
    | true =>
      rw [hr] at HV
      have HR : Hid (r = (bits .andNot .i64 (needS off n wr) v, 0)) := by rw [HV.out]; rfl
      obtain ⟨r0, r1, r2, r3⟩ := rng_iff.1 hr
      clear hc hr HV
      cases wr with
      | false =>
        go_enter Try.func12, Try.ntmps12
        go_wp2_with (first | (go_at_call 16; refine (HC.out _ hd).mono ?_; rintro e w' ⟨rfl, hb⟩; obtain ⟨hcc, hff⟩ := bcell hb) | (go_at_call 34; refine (touched_any _ _ _ (by omega) (by omega) (by omega)).mono ?_; rintro e w' ⟨rfl, rfl⟩))
        go_ret2
        rw [HR.out]
        exact ⟨rfl, ((Below.refl _ _).alloc (Nat.le_refl _) _).trans (hb.mono (by simp))⟩
      | true =>
        go_enter Try.func12, Try.ntmps12
        go_wp2_with (first | (go_at_call 16; refine (HC.out _ hd).mono ?_; rintro e w' ⟨rfl, hb⟩; obtain ⟨hcc, hff⟩ := bcell hb) | (go_at_call 34; refine (touched_any _ _ _ (by omega) (by omega) (by omega)).mono ?_; rintro e w' ⟨rfl, rfl⟩) | (go_at_call 35; refine (covered_any _ _ _ (by omega) (by omega) (by omega)).mono ?_; rintro e w' ⟨rfl, rfl⟩))
        go_ret2
        rw [HR.out]
        exact ⟨rfl, ((Below.refl _ _).alloc (Nat.le_refl _) _).trans (hb.mono (by simp))⟩

set_option maxHeartbeats 2000000 in
theorem needsR_any (p : Pg) (off n : Int) (wr : Bool) (w : World) (hd : p.d.size ≤ maxLen) (hl : -9223372036854775808 ≤ off) (hh : off ≤ 9223372036854775807) :
    Calls Try.prog 13 #[p.val, .int .i64 off, .int .i64 n, .bool wr] w (RetW (.tuple #[.int .i64 (needV p off n wr).1, .int .i64 (needV p off n wr).2]) w) := by
  have HV : Hid (needV p off n wr = if chk p = true then (if rng off n = true then (bits .andNot .i64 (needS off n wr) p.v, 0) else (0, 2)) else (0, 1)) := rfl
  generalize needV p off n wr = r at HV
  have hch := checkR_any p
  have hrg := fun w => ranged_any off n w hl hh
  have hrr : decide (0 ≤ off ∧ 0 ≤ n ∧ off ≤ 16 ∧ n ≤ 16 - off) = rng off n := rfl
  rw [hrr] at hrg
  clear hrr
  obtain ⟨d, v, e⟩ := p
  simp only [Pg.val] at hch hd HV ⊢
  have HC := Lib.hid hch; clear hch
  cases hc : chk ⟨d, v, e⟩ with
  | false =>
    rw [hc] at HC HV
    have HR : Hid (r = (0, 1)) := by rw [HV.out]; rfl
    clear hc HV hrg
    go_enter Try.func13, Try.ntmps13
    go_wp2_with (go_at_call 17; refine (HC.out _ hd).mono ?_; rintro e w' ⟨rfl, hb⟩)
    go_ret2
    rw [HR.out]
    exact ⟨rfl, ((Below.refl _ _).alloc (Nat.le_refl _) _).trans (hb.mono (by simp))⟩
  | true =>
    rw [hc] at HC HV
    cases hr : rng off n with
    | false =>
      rw [hr] at HV hrg
      have HG := Lib.hid hrg
      have HR : Hid (r = (0, 2)) := by rw [HV.out]; rfl
      clear hc hr HV hrg
      go_enter Try.func13, Try.ntmps13
      go_wp2_with (first | (go_at_call 17; refine (HC.out _ hd).mono ?_; rintro e w' ⟨rfl, hb⟩) | (go_at_call 36; refine (HG.out _).mono ?_; rintro e w' ⟨rfl, rfl⟩))
      go_ret2
      rw [HR.out]
      exact ⟨rfl, ((Below.refl _ _).alloc (Nat.le_refl _) _).trans (hb.mono (by simp))⟩
    | true =>
      rw [hr] at HV hrg
      have HG := Lib.hid hrg
      have HR : Hid (r = (bits .andNot .i64 (needS off n wr) v, 0)) := by rw [HV.out]; rfl
      obtain ⟨r0, r1, r2, r3⟩ := rng_iff.1 hr
      clear hc hr HV hrg
      cases wr with
      | false =>
        go_enter Try.func13, Try.ntmps13
        go_wp2_with (first | (go_at_call 17; refine (HC.out _ hd).mono ?_; rintro e w' ⟨rfl, hb⟩; obtain ⟨hcc, hff⟩ := bcell hb) | (go_at_call 36; refine (HG.out _).mono ?_; rintro e w' ⟨rfl, rfl⟩) | (go_at_call 37; refine (touchedR_any _ _ _ (by omega) (by omega) (by omega)).mono ?_; rintro e w' ⟨rfl, rfl⟩))
        go_ret2
        rw [HR.out]
        exact ⟨rfl, ((Below.refl _ _).alloc (Nat.le_refl _) _).trans (hb.mono (by simp))⟩
      | true =>
        go_enter Try.func13, Try.ntmps13
        go_wp2_with (first | (go_at_call 17; refine (HC.out _ hd).mono ?_; rintro e w' ⟨rfl, hb⟩; obtain ⟨hcc, hff⟩ := bcell hb) | (go_at_call 36; refine (HG.out _).mono ?_; rintro e w' ⟨rfl, rfl⟩) | (go_at_call 37; refine (touchedR_any _ _ _ (by omega) (by omega) (by omega)).mono ?_; rintro e w' ⟨rfl, rfl⟩))
        go_ret2
        rw [HR.out]
        exact ⟨rfl, ((Below.refl _ _).alloc (Nat.le_refl _) _).trans (hb.mono (by simp))⟩

theorem readyV_cases (p : Pg) (off n : Int) (wr : Bool) :
    ((needV p off n wr).2 = 0 ∧ (needV p off n wr).1 = 0 ∧ readyV p off n wr = 0) ∨ ((needV p off n wr).2 = 0 ∧ (needV p off n wr).1 ≠ 0 ∧ readyV p off n wr = 7) ∨ ((needV p off n wr).2 = 1 ∧ readyV p off n wr = 1) ∨ ((needV p off n wr).2 = 2 ∧ readyV p off n wr = 2) := by
  have h := needV_e p off n wr
  unfold readyV
  generalize needV p off n wr = r at *
  obtain ⟨a, b⟩ := r
  simp only at h ⊢
  rcases h with rfl | rfl | rfl
  · by_cases ha : a = 0 <;> simp [ha]
  · simp
  · simp

set_option maxHeartbeats 2000000 in
theorem ready_any (p : Pg) (off n : Int) (wr : Bool) (w : World) (hd : p.d.size ≤ maxLen) :
    Calls Try.prog 38 #[p.val, .int .i64 off, .int .i64 n, .bool wr] w (RetW (.int .i64 (readyV p off n wr)) w) := by
  have hcs := readyV_cases p off n wr
  have hch := needs_any p off n wr
  generalize readyV p off n wr = z at *
  generalize needV p off n wr = r at *
  obtain ⟨a, b⟩ := r
  obtain ⟨d, v, e⟩ := p
  simp only [Pg.val] at hch hd hcs ⊢
  have HC := Lib.hid hch; clear hch
  rcases hcs with ⟨rfl, rfl, rfl⟩ | ⟨rfl, ha, rfl⟩ | ⟨rfl, rfl⟩ | ⟨rfl, rfl⟩
  all_goals
    go_enter Try.func38, Try.ntmps38
    go_wp2_with (go_at_call 12; refine (HC.out _ hd).mono ?_; rintro e w' ⟨rfl, hb⟩)
    go_ret
    exact RetW.mk rfl (((Below.refl _ _).alloc (Nat.le_refl _) _).trans (hb.mono (by simp)))

set_option maxHeartbeats 2000000 in
theorem read_any (p : Pg) (off n : Int) (w : World) (hd : p.d.size ≤ maxLen) :
    Calls Try.prog 14 #[p.val, .int .i64 off, .int .i64 n] w (RetW (.tuple #[.string (readV p off n).1, .int .i64 (readV p off n).2]) w) := by
  have hch := ready_any p off n false
  by_cases hz : readyV p off n false = 0
  · obtain ⟨z1, z2, _⟩ := ready_zero hz
    have hsz := chk_size z1
    obtain ⟨r0, r1, r2, r3⟩ := rng_iff.1 z2
    have HR : Hid (readV p off n = (p.d.extract off.toNat (off + n).toNat, 0)) := by unfold Hid readV; rw [if_pos hz]
    rw [hz] at hch
    generalize readV p off n = r at *
    obtain ⟨d, v, e⟩ := p
    simp only [Pg.val] at hch hd HR hsz ⊢
    have HC := Lib.hid hch; clear hch hz z1 z2
    have hsz' : 16 ≤ d.size := by omega
    have HS := Lib.hid hsz
    clear hsz
    go_enter Try.func14, Try.ntmps14
    go_wp2_with (go_at_call 38; refine (HC.out _ hd).mono ?_; rintro e w' ⟨rfl, hb⟩; obtain ⟨hcc, hff⟩ := bcell hb)
    go_ret2
    rw [HR.out]
    exact ⟨rfl, ((Below.refl _ _).alloc (Nat.le_refl _) _).trans (hb.mono (by simp))⟩
  · have HR : Hid (readV p off n = (⟨#[]⟩, readyV p off n false)) := by unfold Hid readV; rw [if_neg hz]
    generalize readyV p off n false = z at *
    generalize readV p off n = r at *
    obtain ⟨d, v, e⟩ := p
    simp only [Pg.val] at hch hd HR ⊢
    have HC := Lib.hid hch; clear hch
    go_enter Try.func14, Try.ntmps14
    go_wp2_with (go_at_call 38; refine (HC.out _ hd).mono ?_; rintro e w' ⟨rfl, hb⟩; obtain ⟨hcc, hff⟩ := bcell hb)
    go_ret2
    rw [HR.out]
    exact ⟨rfl, ((Below.refl _ _).alloc (Nat.le_refl _) _).trans (hb.mono (by simp))⟩
end Go.Proofs.Ythimcidkmnobnaa
