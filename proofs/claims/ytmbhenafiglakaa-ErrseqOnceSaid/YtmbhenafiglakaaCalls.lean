/- Contracts of layer 5: the functions. -/
import Derived.Test.YtmbhenafiglakaaBase
namespace Go.Proofs.Ytmbhenafiglakaa
open Go.ChangeShapes Go.WideShapes Go.ChangeAt Go.RowKit

set_option maxHeartbeats 400000 in
theorem rright_any (c e : Int) (w : World) :
    Calls Try.prog 18 #[.agg #[.int .i64 c, .int .i64 e]] w (RetW (.bool (rightB c e)) w) := by
  go_enter Try.func18, Try.ntmps18
  go_wp2
  all_goals
    go_ret
    refine RetW.mk (by unfold rightB; simp [*]; try omega) ?_
    exact (Below.refl _ _).alloc (Nat.le_refl _) _

def recS (c e x : Int) : Int × Int × Int :=
  if rightB c e = false ∨ x = 0 then (c, e, 1) else if c = 1000000 then (c, e, 3) else (c + 1, x, 0)
theorem rec_eq {c e x a b f : Int} (h : recS c e x = (a, b, f)) : Value.tuple #[.agg #[.int .i64 a, .int .i64 b], .int .i64 f] = Value.tuple #[.agg #[.int .i64 (recS c e x).1, .int .i64 (recS c e x).2.1], .int .i64 (recS c e x).2.2] := by rw [h]
theorem right_bd {c e : Int} (h : rightB c e = true) : 0 ≤ c ∧ c ≤ 1000000 ∧ (c = 0 ↔ e = 0) := by
  unfold rightB at h; simp at h
  refine ⟨h.1.1, h.1.2, ?_⟩
  have := h.2
  by_cases h1 : c = 0 <;> by_cases h2 : e = 0 <;> simp_all

set_option maxHeartbeats 400000 in
theorem record_any (c e x : Int) (w : World) :
    Calls Try.prog 6 #[.agg #[.int .i64 c, .int .i64 e], .int .i64 x] w (RetW (.tuple #[.agg #[.int .i64 (recS c e x).1, .int .i64 (recS c e x).2.1], .int .i64 (recS c e x).2.2]) w) := by
  by_cases hr : rightB c e = true
  · have hbd := right_bd hr
    have h0 : 0 ≤ c := hbd.1
    have h1 : c ≤ 1000000 := hbd.2.1
    clear hbd
    go_enter Try.func6, Try.ntmps6
    go_wp2_with (go_at_call 17; refine (right_any _ _ _).mono ?_; rintro e w' ⟨rfl, hb⟩; obtain ⟨hc, hf⟩ := bcell hb; have hy : w.heap.size < w'.heap.size := bnext (B := w.heap.size + 1) hb (by first | assumption | simp))
    all_goals
      refine bodyPost_ret (v := .tuple #[.agg #[.int .i64 _, .int .i64 _], .int .i64 _]) (by simp [results, Try.results6, go_sem, hc, hy, hf]; exact ⟨⟨rfl, rfl⟩, rfl⟩) rfl (RetW.mk (rec_eq ?_) ?_)
      · unfold recS
        (repeat' split) <;> first | rfl | (exfalso; omega) | (exfalso; simp only [beq_iff_eq, beq_eq_false_iff_ne] at *; omega) | (exfalso; simp_all; done)
      · repeat (first | exact Below.refl _ _ | (refine Below.setCell ?_ (by simp) _) | (refine Below.alloc ?_ (by first | (simp; done) | (simp; omega)) _) | refine Below.trans ?_ (Below.mono (by assumption) (by first | omega | (simp; done) | (simp; omega))))
  · have hr : rightB c e = false := by simpa using hr
    go_enter Try.func6, Try.ntmps6
    go_wp2_with (go_at_call 17; refine (right_any _ _ _).mono ?_; rintro e w' ⟨rfl, hb⟩; obtain ⟨hc, hf⟩ := bcell hb; have hy : w.heap.size < w'.heap.size := bnext (B := w.heap.size + 1) hb (by first | assumption | simp))
    all_goals
      refine bodyPost_ret (v := .tuple #[.agg #[.int .i64 _, .int .i64 _], .int .i64 _]) (by simp [results, Try.results6, go_sem, hc, hy, hf]; exact ⟨⟨rfl, rfl⟩, rfl⟩) rfl (RetW.mk (rec_eq ?_) ?_)
      · unfold recS
        (repeat' split) <;> first | rfl | (exfalso; omega) | (exfalso; simp only [beq_iff_eq, beq_eq_false_iff_ne] at *; omega) | (exfalso; simp_all; done)
      · repeat (first | exact Below.refl _ _ | (refine Below.setCell ?_ (by simp) _) | (refine Below.alloc ?_ (by first | (simp; done) | (simp; omega)) _) | refine Below.trans ?_ (Below.mono (by assumption) (by first | omega | (simp; done) | (simp; omega))))
set_option maxHeartbeats 400000 in
theorem rrecord_any (c e x : Int) (w : World) :
    Calls Try.prog 7 #[.agg #[.int .i64 c, .int .i64 e], .int .i64 x] w (RetW (.tuple #[.agg #[.int .i64 (recS c e x).1, .int .i64 (recS c e x).2.1], .int .i64 (recS c e x).2.2]) w) := by
  by_cases hr : rightB c e = true
  · have hbd := right_bd hr
    have h0 : 0 ≤ c := hbd.1
    have h1 : c ≤ 1000000 := hbd.2.1
    clear hbd
    go_enter Try.func7, Try.ntmps7
    go_wp2_with (go_at_call 18; refine (rright_any _ _ _).mono ?_; rintro e w' ⟨rfl, hb⟩; obtain ⟨hc, hf⟩ := bcell hb; have hy : w.heap.size < w'.heap.size := bnext (B := w.heap.size + 1) hb (by first | assumption | simp))
    all_goals
      refine bodyPost_ret (v := .tuple #[.agg #[.int .i64 _, .int .i64 _], .int .i64 _]) (by simp [results, Try.results7, go_sem, hc, hy, hf]; exact ⟨⟨rfl, rfl⟩, rfl⟩) rfl (RetW.mk (rec_eq ?_) ?_)
      · unfold recS
        (repeat' split) <;> first | rfl | (exfalso; omega) | (exfalso; simp only [beq_iff_eq, beq_eq_false_iff_ne] at *; omega) | (exfalso; simp_all; done)
      · repeat (first | exact Below.refl _ _ | (refine Below.setCell ?_ (by simp) _) | (refine Below.alloc ?_ (by first | (simp; done) | (simp; omega)) _) | refine Below.trans ?_ (Below.mono (by assumption) (by first | omega | (simp; done) | (simp; omega))))
  · have hr : rightB c e = false := by simpa using hr
    go_enter Try.func7, Try.ntmps7
    go_wp2_with (go_at_call 18; refine (rright_any _ _ _).mono ?_; rintro e w' ⟨rfl, hb⟩; obtain ⟨hc, hf⟩ := bcell hb; have hy : w.heap.size < w'.heap.size := bnext (B := w.heap.size + 1) hb (by first | assumption | simp))
    all_goals
      refine bodyPost_ret (v := .tuple #[.agg #[.int .i64 _, .int .i64 _], .int .i64 _]) (by simp [results, Try.results7, go_sem, hc, hy, hf]; exact ⟨⟨rfl, rfl⟩, rfl⟩) rfl (RetW.mk (rec_eq ?_) ?_)
      · unfold recS
        (repeat' split) <;> first | rfl | (exfalso; omega) | (exfalso; simp only [beq_iff_eq, beq_eq_false_iff_ne] at *; omega) | (exfalso; simp_all; done)
      · repeat (first | exact Below.refl _ _ | (refine Below.setCell ?_ (by simp) _) | (refine Below.alloc ?_ (by first | (simp; done) | (simp; omega)) _) | refine Below.trans ?_ (Below.mono (by assumption) (by first | omega | (simp; done) | (simp; omega))))

def samS (c e : Int) : Int := if rightB c e = true then c else 0
set_option maxHeartbeats 400000 in
theorem sample_any (c e : Int) (w : World) :
    Calls Try.prog 10 #[.agg #[.int .i64 c, .int .i64 e]] w (RetW (.int .i64 (samS c e)) w) := by
  unfold samS
  by_cases hr : rightB c e = true
  · rw [if_pos hr]
    go_enter Try.func10, Try.ntmps10
    go_wp2_with (go_at_call 17; refine (right_any _ _ _).mono ?_; rintro e w' ⟨rfl, hb⟩; obtain ⟨hc, hf⟩ := bcell hb; have hy : w.heap.size < w'.heap.size := bnext (B := w.heap.size + 1) hb (by first | assumption | simp))
    go_ret
    refine RetW.mk rfl ?_
    repeat (first | exact Below.refl _ _ | (refine Below.setCell ?_ (by simp) _) | (refine Below.alloc ?_ (by first | (simp; done) | (simp; omega)) _) | refine Below.trans ?_ (Below.mono (by assumption) (by first | omega | (simp; done) | (simp; omega))))
  · rw [if_neg hr]
    have hr : rightB c e = false := by simpa using hr
    go_enter Try.func10, Try.ntmps10
    go_wp2_with (go_at_call 17; refine (right_any _ _ _).mono ?_; rintro e w' ⟨rfl, hb⟩; obtain ⟨hc, hf⟩ := bcell hb; have hy : w.heap.size < w'.heap.size := bnext (B := w.heap.size + 1) hb (by first | assumption | simp))
    go_ret
    refine RetW.mk rfl ?_
    repeat (first | exact Below.refl _ _ | (refine Below.setCell ?_ (by simp) _) | (refine Below.alloc ?_ (by first | (simp; done) | (simp; omega)) _) | refine Below.trans ?_ (Below.mono (by assumption) (by first | omega | (simp; done) | (simp; omega))))
set_option maxHeartbeats 400000 in
theorem rsample_any (c e : Int) (w : World) :
    Calls Try.prog 11 #[.agg #[.int .i64 c, .int .i64 e]] w (RetW (.int .i64 (samS c e)) w) := by
  unfold samS
  by_cases hr : rightB c e = true
  · rw [if_pos hr]
    go_enter Try.func11, Try.ntmps11
    go_wp2_with (go_at_call 18; refine (rright_any _ _ _).mono ?_; rintro e w' ⟨rfl, hb⟩; obtain ⟨hc, hf⟩ := bcell hb; have hy : w.heap.size < w'.heap.size := bnext (B := w.heap.size + 1) hb (by first | assumption | simp))
    go_ret
    refine RetW.mk rfl ?_
    repeat (first | exact Below.refl _ _ | (refine Below.setCell ?_ (by simp) _) | (refine Below.alloc ?_ (by first | (simp; done) | (simp; omega)) _) | refine Below.trans ?_ (Below.mono (by assumption) (by first | omega | (simp; done) | (simp; omega))))
  · rw [if_neg hr]
    have hr : rightB c e = false := by simpa using hr
    go_enter Try.func11, Try.ntmps11
    go_wp2_with (go_at_call 18; refine (rright_any _ _ _).mono ?_; rintro e w' ⟨rfl, hb⟩; obtain ⟨hc, hf⟩ := bcell hb; have hy : w.heap.size < w'.heap.size := bnext (B := w.heap.size + 1) hb (by first | assumption | simp))
    go_ret
    refine RetW.mk rfl ?_
    repeat (first | exact Below.refl _ _ | (refine Below.setCell ?_ (by simp) _) | (refine Below.alloc ?_ (by first | (simp; done) | (simp; omega)) _) | refine Below.trans ?_ (Below.mono (by assumption) (by first | omega | (simp; done) | (simp; omega))))

end Go.Proofs.Ytmbhenafiglakaa
