/- Files, flags, offsets and cursors of descriptions. -/
import Derived.Test.YtflcbefomjlgmaaEs
set_option linter.unusedSimpArgs false
set_option linter.unusedVariables false
namespace Go.Proofs.Ytflcbefomjlgmaa
open Go.ChangeShapes Go.WideShapes Go.ChangeAt Go.RowKit

set_option maxHeartbeats 1000000 in
theorem cursor_any (n : Int) (w : World) : Calls Try.prog 34 #[.int .i64 n] w (RetW (.bool (curB n)) w) := by
  have HC := Lib.hid (cur_look 10 n (by omega) (by omega))
  go_enter Try.func34, Try.ntmps34
  go_wp2_with fail
  refine (check_any 1000000 10 n _).mono ?_
  rintro e w' ⟨rfl, hb⟩
  have HB := Lib.hid (((Below.refl w.heap.size w).alloc (Nat.le_refl _) (Obj.cells #[.int .i64 1000000, .int .i64 10] 70)).trans (hb.mono (by simp)))
  clear hb
  obtain ⟨c1, hc1⟩ : ∃ c1, c1 = (lookS 1000000 10 n).1 := ⟨_, rfl⟩
  have HD : Hid ((!(c1 == 1)) = curB n) := by rw [hc1]; exact HC.out
  rw [← hc1]
  generalize (lookS 1000000 10 n).2 = c2
  clear HC hc1
  go_wp2_with fail
  go_ret
  exact RetW.mk (by rw [← HD.out]; first | rfl | (congr 1)) HB.out

def fixB (fi fl : Int) : Bool := decide (0 ≤ fi ∧ fi < 8 ∧ 1 ≤ fl ∧ fl ≤ 7 ∧ fl ≠ 4)
def movB (f c : Int) : Bool := decide (0 ≤ f ∧ f ≤ 128) && curB c
theorem fl_cases {fl : Int} (h1 : 1 ≤ fl) (h2 : fl ≤ 7) : fl = 1 ∨ fl = 2 ∨ fl = 3 ∨ fl = 4 ∨ fl = 5 ∨ fl = 6 ∨ fl = 7 := by omega
set_option maxHeartbeats 1000000 in
theorem fixed_any (fi fl : Int) (w : World) : Calls Try.prog 33 #[.int .i64 fi, .int .i64 fl] w (RetW (.bool (fixB fi fl)) w) := by
  have HR : Hid (fixB fi fl = decide (0 ≤ fi ∧ fi < 8 ∧ 1 ≤ fl ∧ fl ≤ 7 ∧ fl ≠ 4)) := rfl
  generalize fixB fi fl = r at *
  by_cases h : 0 ≤ fi ∧ fi < 8 ∧ 1 ≤ fl ∧ fl ≤ 7
  · obtain ⟨h1, h2, h3, h4⟩ := h
    rcases fl_cases h3 h4 with rfl | rfl | rfl | rfl | rfl | rfl | rfl
    all_goals
      go_enter Try.func33, Try.ntmps33
      go_wp2_with fail
      go_ret
      exact RetW.mk (by rw [HR.out]; simp [h1, h2]; try (first | rfl | decide)) (Below.refl _ _)
  · have HN := Lib.hid h
    have HF : Hid (r = false) := by rw [Hid, HR.out]; exact decide_eq_false (fun hh => h ⟨hh.1, hh.2.1, hh.2.2.1, hh.2.2.2.1⟩)
    clear h
    go_enter Try.func33, Try.ntmps33
    go_wp2_with fail
    all_goals first | (exfalso; have := HN.out; omega) | (go_ret; exact RetW.mk (by rw [HF.out]; rfl) (Below.refl _ _))

/-- a description -/
structure Dn where
  fi : Int
  fl : Int
  f : Int
  cu : Int
  rf : Int
deriving DecidableEq
def Dn.cells (a : Dn) : List Value := [.int .i64 a.fi, .int .i64 a.fl, .int .i64 a.f, .int .i64 a.cu, .int .i64 a.rf]
def Dn.zero : Dn := ⟨0, 0, 0, 0, 0⟩
def dnVal (a : Dn) : Value := .agg #[.int .i64 a.fi, .int .i64 a.fl, .int .i64 a.f, .int .i64 a.cu, .int .i64 a.rf]
def rightD (a : Dn) : Bool := fixB a.fi a.fl && movB a.f a.cu

set_option maxHeartbeats 1000000 in
theorem moving_any (a : Dn) (w : World) : Calls Try.prog 43 #[dnVal a] w (RetW (.bool (movB a.f a.cu)) w) := by
  unfold dnVal
  obtain ⟨fi, fl, f, cu, rf⟩ := a
  simp only
  have HR : Hid (movB f cu = (decide (0 ≤ f ∧ f ≤ 128) && curB cu)) := rfl
  generalize movB f cu = r at *
  by_cases h : 0 ≤ f ∧ f ≤ 128
  · obtain ⟨h1, h2⟩ := h
    go_enter Try.func43, Try.ntmps43
    go_wp2_with fail
    refine (cursor_any cu _).mono ?_
    rintro e w' ⟨rfl, hb⟩
    have HB := Lib.hid (((Below.refl w.heap.size w).alloc (Nat.le_refl _) (Obj.cells #[.int .i64 fi, .int .i64 fl, .int .i64 f, .int .i64 cu, .int .i64 rf] 34)).trans (hb.mono (by simp)))
    clear hb
    go_wp2_with fail
    go_ret
    exact RetW.mk (by rw [HR.out]; simp [h1, h2]) HB.out
  · have HN := Lib.hid h
    have HF : Hid (r = false) := by rw [Hid, HR.out, decide_eq_false h, Bool.false_and]
    clear h
    go_enter Try.func43, Try.ntmps43
    go_wp2_with fail
    all_goals first | (exfalso; have := HN.out; omega) | (go_ret; exact RetW.mk (by rw [HF.out]; rfl) ((Below.refl _ w).alloc (Nat.le_refl _) _))

set_option maxHeartbeats 2000000 in
theorem right_doc (a : Dn) (w : World) : Calls Try.prog 37 #[dnVal a] w (RetW (.bool (rightD a)) w) := by
  unfold dnVal
  obtain ⟨fi, fl, f, cu, rf⟩ := a
  simp only
  have HR : Hid (rightD ⟨fi, fl, f, cu, rf⟩ = decide (0 ≤ fi ∧ fi < 8 ∧ 1 ≤ fl ∧ fl ≤ 7 ∧ fl ≠ 4 ∧ 0 ≤ f ∧ f ≤ 128 ∧ 0 ≤ cu ∧ cu ≤ 1000000)) := by
    show (fixB fi fl && (decide (0 ≤ f ∧ f ≤ 128) && decide (0 ≤ cu ∧ cu ≤ 1000000))) = _
    unfold fixB
    rw [← Bool.decide_and, ← Bool.decide_and]
    congr 1
    simp only [and_assoc]
  generalize rightD ⟨fi, fl, f, cu, rf⟩ = r at *
  by_cases h : 0 ≤ fi ∧ fi < 8 ∧ 1 ≤ fl ∧ fl ≤ 7
  · obtain ⟨h1, h2, h3, h4⟩ := h
    rcases fl_cases h3 h4 with rfl | rfl | rfl | rfl | rfl | rfl | rfl
    all_goals
      go_enter Try.func37, Try.ntmps37
      go_wp2_with fail
      all_goals
        go_ret
        exact RetW.mk (by rw [HR.out]; simp [*]; try (first | rfl | decide | omega)) ((Below.refl _ w).alloc (Nat.le_refl _) _)
  · have HN := Lib.hid h
    have HF : Hid (r = false) := by rw [Hid, HR.out]; exact decide_eq_false (fun hh => h ⟨hh.1, hh.2.1, hh.2.2.1, hh.2.2.2.1⟩)
    clear h
    go_enter Try.func37, Try.ntmps37
    go_wp2_with fail
    all_goals first | (exfalso; have := HN.out; omega) | (go_ret; exact RetW.mk (by rw [HF.out]; rfl) ((Below.refl _ w).alloc (Nat.le_refl _) _))
end Go.Proofs.Ytflcbefomjlgmaa
