/- Pages: sets of two sectors as numbers, whether a page is right, and what a range touches and covers. -/
import Derived.Test.YthimcidkmnobnaaTape
namespace Go.Proofs.Ythimcidkmnobnaa
open Go.ChangeShapes Go.WideShapes Go.ChangeAt Go.RowKit

/-- a set of the two sectors as a number -/
def sb (a b : Bool) : Int := (if a then 1 else 0) + (if b then 2 else 0)
theorem sb_bd (a b : Bool) : 0 ≤ sb a b ∧ sb a b ≤ 3 := by cases a <;> cases b <;> decide
theorem sb_of {v : Int} (h0 : 0 ≤ v) (h1 : v ≤ 3) : ∃ a b, v = sb a b := by
  have h : v = 0 ∨ v = 1 ∨ v = 2 ∨ v = 3 := by omega
  rcases h with rfl | rfl | rfl | rfl
  · exact ⟨false, false, rfl⟩
  · exact ⟨true, false, rfl⟩
  · exact ⟨false, true, rfl⟩
  · exact ⟨true, true, rfl⟩
theorem sb_and (a b c d : Bool) : bits .and .i64 (sb a b) (sb c d) = sb (a && c) (b && d) := by cases a <;> cases b <;> cases c <;> cases d <;> decide
theorem sb_or (a b c d : Bool) : bits .or .i64 (sb a b) (sb c d) = sb (a || c) (b || d) := by cases a <;> cases b <;> cases c <;> cases d <;> decide
theorem sb_andNot (a b c d : Bool) : bits .andNot .i64 (sb a b) (sb c d) = sb (a && !c) (b && !d) := by cases a <;> cases b <;> cases c <;> cases d <;> decide
theorem sb_zero (a b : Bool) : sb a b = 0 ↔ a = false ∧ b = false := by cases a <;> cases b <;> decide

/-- a page -/
structure Pg where
  d : ByteArray
  v : Int
  e : Int
def Pg.val (p : Pg) : Value := .agg #[.string p.d, .int .i64 p.v, .int .i64 p.e]
def isSet (n : Int) : Bool := decide (0 ≤ n ∧ n ≤ 3)
def chk (p : Pg) : Bool := decide (p.d.size = 16) && isSet p.v && isSet p.e && (bits .andNot .i64 p.e p.v == 0)
theorem chk_right {p : Pg} (h : chk p = true) : ∃ d a b x y, p = ⟨d, sb a b, sb x y⟩ ∧ d.size = 16 ∧ (x && !a) = false ∧ (y && !b) = false := by
  obtain ⟨d, v, e⟩ := p
  simp only [chk, isSet, Bool.and_eq_true, decide_eq_true_eq, beq_iff_eq] at h
  obtain ⟨⟨⟨h1, h2⟩, h3⟩, h4⟩ := h
  obtain ⟨a, b, rfl⟩ := sb_of h2.1 h2.2
  obtain ⟨x, y, rfl⟩ := sb_of h3.1 h3.2
  rw [sb_andNot, sb_zero] at h4
  exact ⟨d, a, b, x, y, rfl, h1, h4.1, h4.2⟩
theorem right_chk {d : ByteArray} {a b x y : Bool} (h1 : d.size = 16) (h2 : (x && !a) = false) (h3 : (y && !b) = false) : chk ⟨d, sb a b, sb x y⟩ = true := by
  simp only [chk, isSet, Bool.and_eq_true, decide_eq_true_eq, beq_iff_eq]
  exact ⟨⟨⟨h1, sb_bd a b⟩, sb_bd x y⟩, by rw [sb_andNot, h2, h3]; rfl⟩

theorem set_any (n : Int) (w : World) : Calls Try.prog 39 #[.int .i64 n] w fun e w' => e = .returned (.bool (isSet n)) ∧ w = w' := by
  go_enter Try.func39, Try.ntmps39
  go_wp2
  all_goals
    go_ret
    refine ⟨?_, rfl⟩
    simp [isSet]
    try omega
end Go.Proofs.Ythimcidkmnobnaa
