/- Entries of page tables: rows of structs of five cells. -/
import Derived.Test.YtodonnagmgbliaaTapO
import Derived.LoopTactic
namespace Go.Proofs.Ytodonnagmgbliaa
open Go.ChangeShapes Go.WideShapes Go.ChangeAt Go.RowKit

structure Ar where
  pr : Int
  pa : Int
  fr : Int
  wr : Bool
  ac : Bool
def Ar.cells (a : Ar) : List Value := [.int .i64 a.pr, .int .i64 a.pa, .int .i64 a.fr, .bool a.wr, .bool a.ac]
def Ar.zero : Ar := ⟨0, 0, 0, false, false⟩
theorem Ar.ext' {a b : Ar} (h1 : a.pr = b.pr) (h2 : a.pa = b.pa) (h3 : a.fr = b.fr) (h4 : a.wr = b.wr) (h5 : a.ac = b.ac) : a = b := by
  cases a; cases b; simp_all
/-- the five cells of a struct at offset o of block g -/
structure Cel (w : World) (g o : Nat) (a : Ar) : Prop where
  c0 : w.cell? ⟨g, o, none⟩ = some (.int .i64 a.pr)
  c1 : w.cell? ⟨g, o + 1, none⟩ = some (.int .i64 a.pa)
  c2 : w.cell? ⟨g, o + 2, none⟩ = some (.int .i64 a.fr)
  c3 : w.cell? ⟨g, o + 3, none⟩ = some (.bool a.wr)
  c4 : w.cell? ⟨g, o + 4, none⟩ = some (.bool a.ac)
theorem Cel.eq {w w' : World} {g o : Nat} {a : Ar} (h : Cel w g o a) (he : ∀ i, w'.cell? ⟨g, i, none⟩ = w.cell? ⟨g, i, none⟩) : Cel w' g o a :=
  ⟨by rw [he]; exact h.c0, by rw [he]; exact h.c1, by rw [he]; exact h.c2, by rw [he]; exact h.c3, by rw [he]; exact h.c4⟩
def flat (l : List Ar) : List Value := l.flatMap Ar.cells
theorem flat_len (l : List Ar) : (flat l).length = l.length * 5 := by
  induction l with
  | nil => rfl
  | cons a r ih => simp only [flat, List.flatMap_cons, List.length_append] at *; rw [ih]; simp [Ar.cells]; omega
theorem flat_append (l m : List Ar) : flat (l ++ m) = flat l ++ flat m := by simp [flat]
theorem flat_one (a : Ar) : flat [a] = a.cells := by simp [flat]
/-- the place of cell i of element j -/
theorem flat_at (l : List Ar) : ∀ (j : Nat), j < l.length → ∀ i, i < 5 → (flat l)[j * 5 + i]? = ((l.getD j Ar.zero).cells)[i]? := by
  induction l with
  | nil => intro j hj; simp at hj
  | cons a r ih =>
    intro j hj i hi
    have e : flat (a :: r) = a.cells ++ flat r := by simp [flat]
    rw [e]
    cases j with
    | zero =>
      rw [List.getElem?_append_left (by simp [Ar.cells]; omega)]
      simp [List.getD]
    | succ k =>
      rw [List.getElem?_append_right (by simp [Ar.cells]; omega)]
      have h2 := ih k (by simpa using hj) i hi
      rw [show (k + 1) * 5 + i - a.cells.length = k * 5 + i from by simp [Ar.cells]; omega, h2]
      simp [List.getD]
/-- a is the head of a row of areas l, in a block from B on -/
def ARow (B : Nat) (a : Option Addr) (cap : Nat) (l : List Ar) (w : World) : Prop :=
  (a = none ∧ l = [] ∧ cap = 0) ∨ ∃ g, a = some ⟨g, 0, none⟩ ∧ B ≤ g ∧ g < w.heap.size ∧ l.length ≤ cap ∧ cap ≤ maxLen ∧ ∀ j, j < l.length → Cel w g (j * 5) (l.getD j Ar.zero)
theorem ARow.mono {B C cap : Nat} {a : Option Addr} {l : List Ar} {w : World} (h : ARow B a cap l w) (hc : C ≤ B) : ARow C a cap l w := by
  rcases h with h | ⟨g, h1, h2, h3, h4⟩
  · exact Or.inl h
  · exact Or.inr ⟨g, h1, Nat.le_trans hc h2, h3, h4⟩
theorem ARow.below {B cap : Nat} {a : Option Addr} {l : List Ar} {w w' : World} (h : ARow B a cap l w) (hb : Below w.heap.size w w') : ARow B a cap l w' := by
  rcases h with h | ⟨g, h1, h2, h3, h4, h5, h6⟩
  · exact Or.inl h
  · exact Or.inr ⟨g, h1, h2, Nat.lt_of_lt_of_le h3 hb.size, h4, h5, fun j hj => (h6 j hj).eq (fun i => hb.cell (p := ⟨g, i, none⟩) h3)⟩
theorem ARow.tock {B t cap : Nat} {a : Option Addr} {l : List Ar} {w w' : World} (h : ARow B a cap l w) (ht : t < B) (hk : Tock t w w') : ARow B a cap l w' := by
  rcases h with h | ⟨g, h1, h2, h3, h4, h5, h6⟩
  · exact Or.inl h
  · exact Or.inr ⟨g, h1, h2, Nat.lt_of_lt_of_le h3 hk.size, h4, h5, fun j hj => (h6 j hj).eq (fun i => hk.cell (by omega) h3)⟩
theorem ARow.ofOwn {B n : Nat} {v : Value} {l : List Ar} {w : World} (h : w.ownsRow B 30 5 v n (flat l)) : ∃ a cap, v = .slice a l.length cap ∧ n = l.length ∧ ARow B a cap l w := by
  have hl : n = l.length := by have := h.1; rw [flat_len] at this; omega
  subst hl
  rcases h.2 with ⟨hv, hn⟩ | ⟨g, cap, cur, hv, _, _, hc1, hc2, _⟩
  · refine ⟨none, 0, ?_, rfl, Or.inl ⟨rfl, List.length_eq_zero_iff.1 hn, rfl⟩⟩
    rw [hv, hn]
  · refine ⟨some ⟨g, 0, none⟩, cap, hv, rfl, Or.inr ⟨g, rfl, (h.lt g (by rw [hv]; rfl)).1, (h.lt g (by rw [hv]; rfl)).2, hc1, hc2, ?_⟩⟩
    intro j hj
    have key : ∀ i v, i < 5 → (l.getD j Ar.zero).cells[i]? = some v → w.cell? ⟨g, j * 5 + i, none⟩ = some v := by
      intro i v hi he
      have := h.cells (g := g) (by rw [hv]; rfl) (j * 5 + i) v (by rw [flat_at l j hj i hi]; exact he)
      rw [Addr.add_lit, Nat.zero_add] at this
      exact this
    exact ⟨key 0 _ (by omega) rfl, key 1 _ (by omega) rfl, key 2 _ (by omega) rfl, key 3 _ (by omega) rfl, key 4 _ (by omega) rfl⟩
theorem own_mono {w : World} {B C : Nat} {e : TypeId} {size n : Nat} {v : Value} {xs : List Value} (h : w.ownsRow B e size v n xs) (hb : C ≤ B) : w.ownsRow C e size v n xs := by
  refine ⟨h.1, ?_⟩
  rcases h.2 with hn | ⟨g, cap, cur, e1, e2, e3⟩
  · exact Or.inl hn
  · exact Or.inr ⟨g, cap, cur, e1, Nat.le_trans hb e2, e3⟩
theorem area_info : (Try.prog.info? 30).map (fun i => (i.zero, i.size, i.bytes)) = some (some (.agg #[.int .i64 0, .int .i64 0, .int .i64 0, .bool false, .bool false]), 5, 32) := by kernel_rfl

/-- block g is one area -/
structure Blk (w : World) (g : Nat) (a : Ar) : Prop where
  hi : g < w.heap.size
  c0 : w.cell? ⟨g, 0, none⟩ = some (.int .i64 a.pr)
  c1 : w.cell? ⟨g, 1, none⟩ = some (.int .i64 a.pa)
  c2 : w.cell? ⟨g, 2, none⟩ = some (.int .i64 a.fr)
  c3 : w.cell? ⟨g, 3, none⟩ = some (.bool a.wr)
  c4 : w.cell? ⟨g, 4, none⟩ = some (.bool a.ac)
  f : ∀ i, i < 5 → w.frozen? ⟨g, i, none⟩ = false
theorem Blk.below {w w' : World} {g : Nat} {a : Ar} (h : Blk w g a) (hb : Below w.heap.size w w') : Blk w' g a :=
  ⟨Nat.lt_of_lt_of_le h.hi hb.size, by rw [hb.cell h.hi]; exact h.c0, by rw [hb.cell h.hi]; exact h.c1, by rw [hb.cell h.hi]; exact h.c2, by rw [hb.cell h.hi]; exact h.c3, by rw [hb.cell h.hi]; exact h.c4, fun i hi => by rw [hb.frozen h.hi]; exact h.f i hi⟩
theorem Blk.tock {w w' : World} {g t : Nat} {a : Ar} (h : Blk w g a) (hk : Tock t w w') (hg : g ≠ t) : Blk w' g a :=
  ⟨Nat.lt_of_lt_of_le h.hi hk.size, by rw [hk.cell hg h.hi]; exact h.c0, by rw [hk.cell hg h.hi]; exact h.c1, by rw [hk.cell hg h.hi]; exact h.c2, by rw [hk.cell hg h.hi]; exact h.c3, by rw [hk.cell hg h.hi]; exact h.c4, fun i hi => by rw [hk.frozen hg h.hi]; exact h.f i hi⟩
theorem Blk.new (w : World) (s c f : Int) (p b : Bool) : Blk (w.alloc (.cells #[.int .i64 s, .int .i64 c, .int .i64 f, .bool p, .bool b] 30)) w.heap.size ⟨s, c, f, p, b⟩ :=
  ⟨by simp, by simp, by simp, by simp, by simp, by simp, fun i _ => by simp⟩

def arVal (a : Ar) : Value := .agg #[.int .i64 a.pr, .int .i64 a.pa, .int .i64 a.fr, .bool a.wr, .bool a.ac]
/-- an entry is right -/
def rightB (a : Ar) : Bool := decide (0 ≤ a.pr ∧ a.pr < 8 ∧ 0 ≤ a.pa ∧ a.pa < 64 ∧ 1 ≤ a.fr ∧ a.fr ≤ 64)
theorem rightB_iff {a : Ar} : rightB a = true ↔ (0 ≤ a.pr ∧ a.pr < 8 ∧ 0 ≤ a.pa ∧ a.pa < 64 ∧ 1 ≤ a.fr ∧ a.fr ≤ 64) := by simp [rightB]
/-- an entry stands ahead of another one -/
def lessB (a b : Ar) : Bool := decide (a.pr < b.pr ∨ a.pr = b.pr ∧ a.pa < b.pa)
def cmpI (x y : Int) : Int := if x < y then -1 else if y < x then 1 else 0
def cmpP (a b : Ar) : Int := if cmpI a.pr b.pr ≠ 0 then cmpI a.pr b.pr else cmpI a.pa b.pa
theorem cmpI_lo (x y : Int) : -1 ≤ cmpI x y ∧ cmpI x y ≤ 1 := by unfold cmpI; split <;> (try split) <;> omega
theorem cmpP_lo (a b : Ar) : -1 ≤ cmpP a b ∧ cmpP a b ≤ 1 := by unfold cmpP; split <;> exact cmpI_lo _ _
theorem cmpI_neg (x y : Int) : cmpI x y < 0 ↔ x < y := by unfold cmpI; split <;> (try split) <;> omega
theorem cmpI_zero (x y : Int) : cmpI x y = 0 ↔ x = y := by unfold cmpI; split <;> (try split) <;> omega
theorem cmpP_neg (a b : Ar) : cmpP a b < 0 ↔ lessB a b = true := by
  unfold cmpP lessB
  rw [decide_eq_true_iff]
  have h1 := cmpI_neg a.pr b.pr; have h2 := cmpI_zero a.pr b.pr; have h3 := cmpI_neg a.pa b.pa
  split <;> omega
theorem cmpP_zero (a b : Ar) : cmpP a b = 0 ↔ (a.pr = b.pr ∧ a.pa = b.pa) := by
  unfold cmpP
  have h2 := cmpI_zero a.pr b.pr; have h3 := cmpI_zero a.pa b.pa
  split <;> omega

set_option maxHeartbeats 1000000 in
theorem right_any (a : Ar) (w : World) : Calls Try.prog 32 #[arVal a] w (RetW (.bool (rightB a)) w) := by
  unfold arVal
  have HR : Hid (rightB a = decide (0 ≤ a.pr ∧ a.pr < 8 ∧ 0 ≤ a.pa ∧ a.pa < 64 ∧ 1 ≤ a.fr ∧ a.fr ≤ 64)) := rfl
  generalize rightB a = r at *
  obtain ⟨s, c, f, p, b⟩ := a
  simp only at *
  by_cases h : 0 ≤ s ∧ s < 8 ∧ 0 ≤ c ∧ c < 64 ∧ 1 ≤ f ∧ f ≤ 64
  · rw [decide_eq_true h] at HR
    obtain ⟨h1, h2, h3, h4, h5, h6⟩ := h
    go_enter Try.func32, Try.ntmps32
    go_wp2_with fail
    go_ret
    exact RetW.mk (by rw [HR.out]; simp) ((Below.refl _ w).alloc (Nat.le_refl _) _)
  · rw [decide_eq_false h] at HR
    have HN := Lib.hid h
    clear h
    go_enter Try.func32, Try.ntmps32
    go_wp2_with fail
    all_goals first | (exfalso; have := HN.out; omega) | (go_ret; exact RetW.mk (by rw [HR.out]; first | done | rfl) ((Below.refl _ w).alloc (Nat.le_refl _) _)) | (go_ret; refine RetW.mk ?_ ((Below.refl _ w).alloc (Nat.le_refl _) _); rw [HR.out]; show Value.bool (decide (f ≤ 64)) = _; rw [decide_eq_false (by have := HN.out; omega)])

set_option maxHeartbeats 1000000 in
theorem rightR_any (a : Ar) (w : World) : Calls Try.prog 36 #[arVal a] w (RetW (.bool (rightB a)) w) := by
  unfold arVal
  have HR : Hid (rightB a = decide (0 ≤ a.pr ∧ a.pr < 8 ∧ 0 ≤ a.pa ∧ a.pa < 64 ∧ 1 ≤ a.fr ∧ a.fr ≤ 64)) := rfl
  generalize rightB a = r at *
  obtain ⟨s, c, f, p, b⟩ := a
  simp only at *
  by_cases h : 0 ≤ s ∧ s < 8 ∧ 0 ≤ c ∧ c < 64 ∧ 1 ≤ f ∧ f ≤ 64
  · rw [decide_eq_true h] at HR
    obtain ⟨h1, h2, h3, h4, h5, h6⟩ := h
    go_enter Try.func36, Try.ntmps36
    go_wp2_with fail
    go_ret
    exact RetW.mk (by rw [HR.out]; simp) ((Below.refl _ w).alloc (Nat.le_refl _) _)
  · rw [decide_eq_false h] at HR
    have HN := Lib.hid h
    clear h
    go_enter Try.func36, Try.ntmps36
    go_wp2_with fail
    all_goals first | (exfalso; have := HN.out; omega) | (go_ret; exact RetW.mk (by rw [HR.out]; first | done | rfl) ((Below.refl _ w).alloc (Nat.le_refl _) _)) | (go_ret; refine RetW.mk ?_ ((Below.refl _ w).alloc (Nat.le_refl _) _); rw [HR.out]; show Value.bool (decide (f ≤ 64)) = _; rw [decide_eq_false (by have := HN.out; omega)])

set_option maxHeartbeats 1000000 in
theorem less_any (a b : Ar) (w : World) : Calls Try.prog 37 #[arVal a, arVal b] w (RetW (.bool (lessB a b)) w) := by
  unfold arVal
  have HR : Hid (lessB a b = decide (a.pr < b.pr ∨ a.pr = b.pr ∧ a.pa < b.pa)) := rfl
  generalize lessB a b = r at *
  obtain ⟨s, c, f, p, q⟩ := a
  obtain ⟨s', c', f', p', q'⟩ := b
  simp only at *
  have HB : Hid (Below w.heap.size w ((w.alloc (Obj.cells #[Value.int IntKind.i64 s, Value.int IntKind.i64 c, Value.int IntKind.i64 f, Value.bool p, Value.bool q] 30)).alloc (Obj.cells #[Value.int IntKind.i64 s', Value.int IntKind.i64 c', Value.int IntKind.i64 f', Value.bool p', Value.bool q'] 30))) := ((Below.refl _ w).alloc (Nat.le_refl _) _).alloc (by simp) _
  rcases Int.lt_trichotomy s s' with h1 | h1 | h1
  · rw [decide_eq_true (Or.inl h1)] at HR
    go_enter Try.func37, Try.ntmps37
    go_wp2_with fail
    go_ret
    exact RetW.mk (by rw [HR.out]; first | done | rfl) HB.out
  · subst h1
    have e : decide (s < s ∨ s = s ∧ c < c') = decide (c < c') := by congr 1; rw [eq_iff_iff]; omega
    rw [e] at HR; clear e
    go_enter Try.func37, Try.ntmps37
    go_wp2_with fail
    go_ret
    exact RetW.mk (by rw [HR.out]; first | done | rfl) HB.out
  · rw [decide_eq_false (by omega)] at HR
    have h2 : ¬ s < s' := by omega
    have h3 : ¬ s = s' := by omega
    go_enter Try.func37, Try.ntmps37
    go_wp2_with fail
    all_goals (go_ret; exact RetW.mk (by rw [HR.out]; first | done | rfl) HB.out)

theorem nan_any (x : Int) (w : World) : Calls Try.prog 48 #[.int .i64 x] w fun e w' => e = .returned (.bool false) ∧ w' = w := by
  go_enter Try.func48, Try.ntmps48
  go_wp2_with fail
  go_ret
  exact ⟨by simp, rfl⟩
theorem cmp_any (x y : Int) (w : World) : Calls Try.prog 43 #[.int .i64 x, .int .i64 y] w fun e w' => e = .returned (.int .i64 (cmpI x y)) ∧ w' = w := by
  have HX := Lib.hid nan_any
  have HC : Hid (cmpI x y = if x < y then -1 else if y < x then 1 else 0) := rfl
  generalize cmpI x y = r at *
  rcases Int.lt_trichotomy x y with h1 | h1 | h1
  · rw [if_pos h1] at HC
    go_enter Try.func43, Try.ntmps43
    go_wp2_with fail
    refine (HX.out x w).mono ?_; rintro e w1 ⟨rfl, rfl⟩
    go_wp2_with fail
    refine (HX.out y w1).mono ?_; rintro e w2 ⟨rfl, rfl⟩
    go_wp2_with fail
    go_ret
    exact ⟨by rw [HC.out]; first | done | rfl, rfl⟩
  · subst h1
    rw [if_neg (by omega), if_neg (by omega)] at HC
    go_enter Try.func43, Try.ntmps43
    go_wp2_with fail
    refine (HX.out x w).mono ?_; rintro e w1 ⟨rfl, rfl⟩
    go_wp2_with fail
    refine (HX.out x w1).mono ?_; rintro e w2 ⟨rfl, rfl⟩
    go_wp2_with fail
    go_ret
    exact ⟨by rw [HC.out]; first | done | rfl, rfl⟩
  · rw [if_neg (by omega), if_pos h1] at HC
    have h2 : ¬ x < y := by omega
    go_enter Try.func43, Try.ntmps43
    go_wp2_with fail
    refine (HX.out x w).mono ?_; rintro e w1 ⟨rfl, rfl⟩
    go_wp2_with fail
    refine (HX.out y w1).mono ?_; rintro e w2 ⟨rfl, rfl⟩
    go_wp2_with fail
    go_ret
    exact ⟨by rw [HC.out]; first | done | rfl, rfl⟩
/-- cmp.Or at two numbers -/
theorem or_any (x y : Int) (g : Nat) (w : World) (h0 : w.cell? ⟨g, 0, none⟩ = some (.int .i64 x)) (h1 : w.cell? ⟨g, 1, none⟩ = some (.int .i64 y)) :
    Calls Try.prog 42 #[.slice (some ⟨g, 0, none⟩) 2 2] w fun e w' => e = .returned (.int .i64 (if x ≠ 0 then x else y)) ∧ w' = w := by
  generalize hr : (if x ≠ 0 then x else y) = r
  have HRr := Lib.hid hr
  clear hr
  go_enter Try.func42, Try.ntmps42
  go_wp2_with fail
  go_loopw [8] (fun v8 wr => ∃ k : Nat, k ≤ 2 ∧ v8 = .int .i64 k ∧ wr = w ∧ Hid (1 ≤ k → x = 0) ∧ Hid (2 ≤ k → y = 0)) (fun v8 _ => 5 - (intOf v8).toNat)
  case atStart => exact ⟨0, by omega, rfl, rfl, fun h => absurd h (by omega), fun h => absurd h (by omega)⟩
  case round =>
    obtain ⟨k, hk, rfl, rfl, H1, H2⟩ := hrel
    have h3 : k = 0 ∨ k = 1 ∨ k = 2 := by omega
    rcases h3 with rfl | rfl | rfl
    · by_cases hx : x = 0
      · subst hx
        go_wp2_with fail
        go_roundw
        case rel => exact ⟨1, by omega, rfl, by simp [Hid]⟩
        case measure => simp [intOf]
      · go_wp2_with fail
        go_ret
        exact ⟨by rw [← HRr.out, if_pos hx]; first | done | rfl, rfl⟩
    · have hx := H1.out (by omega)
      subst hx
      by_cases hy : y = 0
      · subst hy
        go_wp2_with fail
        go_roundw
        case rel => exact ⟨2, by omega, rfl, by simp [Hid]⟩
        case measure => simp [intOf]
      · go_wp2_with fail
        go_ret
        exact ⟨by rw [← HRr.out]; first | done | rfl | simp, rfl⟩
    · have hx := H1.out (by omega)
      have hy := H2.out (by omega)
      subst hx; subst hy
      go_wp2_with fail
      go_ret
      exact ⟨by rw [← HRr.out]; first | done | rfl | simp, rfl⟩

end Go.Proofs.Ytodonnagmgbliaa
