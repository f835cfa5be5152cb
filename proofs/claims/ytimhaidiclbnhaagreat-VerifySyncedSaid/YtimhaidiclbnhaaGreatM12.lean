/- Layer 46, shared texts of this seat, part 12. -/
import Derived.LoopTactic
import Derived.Test.YtimhaidiclbnhaaGreatM00
/- Areas: rows of structs of five cells; what is right. -/
set_option linter.unusedSimpArgs false
set_option linter.unusedVariables false
set_option maxRecDepth 100000
namespace Go.Proofs.YtimhaidiclbnhaaGreat.Ara
open Go.ChangeShapes Go.WideShapes Go.ChangeAt Go.RowKit

structure Ar where
  st : Int
  cn : Int
  fi : Int
  pg : Int
  wr : Bool
def Ar.cells (a : Ar) : List Value := [.int .i64 a.st, .int .i64 a.cn, .int .i64 a.fi, .int .i64 a.pg, .bool a.wr]
def Ar.zero : Ar := ⟨0, 0, 0, 0, false⟩
theorem Ar.ext' {a b : Ar} (h1 : a.st = b.st) (h2 : a.cn = b.cn) (h3 : a.fi = b.fi) (h4 : a.pg = b.pg) (h5 : a.wr = b.wr) : a = b := by
  cases a; cases b; simp_all
/-- the five cells of a struct at offset o of block g -/
structure Cel (w : World) (g o : Nat) (a : Ar) : Prop where
  c0 : w.cell? ⟨g, o, none⟩ = some (.int .i64 a.st)
  c1 : w.cell? ⟨g, o + 1, none⟩ = some (.int .i64 a.cn)
  c2 : w.cell? ⟨g, o + 2, none⟩ = some (.int .i64 a.fi)
  c3 : w.cell? ⟨g, o + 3, none⟩ = some (.int .i64 a.pg)
  c4 : w.cell? ⟨g, o + 4, none⟩ = some (.bool a.wr)
theorem Cel.eq {w w' : World} {g o : Nat} {a : Ar} (h : Cel w g o a) (he : ∀ i, w'.cell? ⟨g, i, none⟩ = w.cell? ⟨g, i, none⟩) : Cel w' g o a :=
  ⟨by rw [he]; exact h.c0, by rw [he]; exact h.c1, by rw [he]; exact h.c2, by rw [he]; exact h.c3, by rw [he]; exact h.c4⟩
def flat (l : List Ar) : List Value := l.flatMap Ar.cells
theorem flat_len (l : List Ar) : (flat l).length = l.length * 5 := by
  induction l with
  | nil => rfl
  | cons a r ih => simp only [flat, List.flatMap_cons, List.length_append] at *; rw [ih]; simp [Ar.cells]; omega
theorem flat_append (l m : List Ar) : flat (l ++ m) = flat l ++ flat m := by simp [flat]
theorem flat_one (a : Ar) : flat [a] = a.cells := by simp [flat]
/-- the place of cell i of element j -/
theorem flat_at (l : List Ar) : ∀ (j : Nat), j < l.length → ∀ i, i < 5 → (flat l)[j * 5 + i]? = ((l.getD j Ar.zero).cells)[i]? := by
  induction l with
  | nil => intro j hj; simp at hj
  | cons a r ih =>
    intro j hj i hi
    have e : flat (a :: r) = a.cells ++ flat r := by simp [flat]
    rw [e]
    cases j with
    | zero =>
      rw [List.getElem?_append_left (by simp [Ar.cells]; omega)]
      simp [List.getD]
    | succ k =>
      rw [List.getElem?_append_right (by simp [Ar.cells]; omega)]
      have h2 := ih k (by simpa using hj) i hi
      rw [show (k + 1) * 5 + i - a.cells.length = k * 5 + i from by simp [Ar.cells]; omega, h2]
      simp [List.getD]
/-- a is the head of a row of areas l, in a block from B on -/
def ARow (B : Nat) (a : Option Addr) (cap : Nat) (l : List Ar) (w : World) : Prop :=
  (a = none ∧ l = [] ∧ cap = 0) ∨ ∃ g, a = some ⟨g, 0, none⟩ ∧ B ≤ g ∧ g < w.heap.size ∧ l.length ≤ cap ∧ cap ≤ maxLen ∧ ∀ j, j < l.length → Cel w g (j * 5) (l.getD j Ar.zero)
theorem ARow.mono {B C cap : Nat} {a : Option Addr} {l : List Ar} {w : World} (h : ARow B a cap l w) (hc : C ≤ B) : ARow C a cap l w := by
  rcases h with h | ⟨g, h1, h2, h3, h4⟩
  · exact Or.inl h
  · exact Or.inr ⟨g, h1, Nat.le_trans hc h2, h3, h4⟩
theorem ARow.below {B cap : Nat} {a : Option Addr} {l : List Ar} {w w' : World} (h : ARow B a cap l w) (hb : Below w.heap.size w w') : ARow B a cap l w' := by
  rcases h with h | ⟨g, h1, h2, h3, h4, h5, h6⟩
  · exact Or.inl h
  · exact Or.inr ⟨g, h1, h2, Nat.lt_of_lt_of_le h3 hb.size, h4, h5, fun j hj => (h6 j hj).eq (fun i => hb.cell (p := ⟨g, i, none⟩) h3)⟩
theorem ARow.tock {B t cap : Nat} {a : Option Addr} {l : List Ar} {w w' : World} (h : ARow B a cap l w) (ht : t < B) (hk : Tock t w w') : ARow B a cap l w' := by
  rcases h with h | ⟨g, h1, h2, h3, h4, h5, h6⟩
  · exact Or.inl h
  · exact Or.inr ⟨g, h1, h2, Nat.lt_of_lt_of_le h3 hk.size, h4, h5, fun j hj => (h6 j hj).eq (fun i => hk.cell (by omega) h3)⟩
theorem ARow.ofOwn {B n : Nat} {v : Value} {l : List Ar} {w : World} (h : w.ownsRow B 139 5 v n (flat l)) : ∃ a cap, v = .slice a l.length cap ∧ n = l.length ∧ ARow B a cap l w := by
  have hl : n = l.length := by have := h.1; rw [flat_len] at this; omega
  subst hl
  rcases h.2 with ⟨hv, hn⟩ | ⟨g, cap, cur, hv, _, _, hc1, hc2, _⟩
  · refine ⟨none, 0, ?_, rfl, Or.inl ⟨rfl, List.length_eq_zero_iff.1 hn, rfl⟩⟩
    rw [hv, hn]
  · refine ⟨some ⟨g, 0, none⟩, cap, hv, rfl, Or.inr ⟨g, rfl, (h.lt g (by rw [hv]; rfl)).1, (h.lt g (by rw [hv]; rfl)).2, hc1, hc2, ?_⟩⟩
    intro j hj
    have key : ∀ i v, i < 5 → (l.getD j Ar.zero).cells[i]? = some v → w.cell? ⟨g, j * 5 + i, none⟩ = some v := by
      intro i v hi he
      have := h.cells (g := g) (by rw [hv]; rfl) (j * 5 + i) v (by rw [flat_at l j hj i hi]; exact he)
      rw [Addr.add_lit, Nat.zero_add] at this
      exact this
    exact ⟨key 0 _ (by omega) rfl, key 1 _ (by omega) rfl, key 2 _ (by omega) rfl, key 3 _ (by omega) rfl, key 4 _ (by omega) rfl⟩
theorem own_mono {w : World} {B C : Nat} {e : TypeId} {size n : Nat} {v : Value} {xs : List Value} (h : w.ownsRow B e size v n xs) (hb : C ≤ B) : w.ownsRow C e size v n xs := by
  refine ⟨h.1, ?_⟩
  rcases h.2 with hn | ⟨g, cap, cur, e1, e2, e3⟩
  · exact Or.inl hn
  · exact Or.inr ⟨g, cap, cur, e1, Nat.le_trans hb e2, e3⟩
theorem area_info : (Tryz.prog.info? 139).map (fun i => (i.zero, i.size, i.bytes)) = some (some (.agg #[.int .i64 0, .int .i64 0, .int .i64 0, .int .i64 0, .bool false]), 5, 40) := by kernel_rfl

/-- block g is one area -/
structure Blk (w : World) (g : Nat) (a : Ar) : Prop where
  hi : g < w.heap.size
  c0 : w.cell? ⟨g, 0, none⟩ = some (.int .i64 a.st)
  c1 : w.cell? ⟨g, 1, none⟩ = some (.int .i64 a.cn)
  c2 : w.cell? ⟨g, 2, none⟩ = some (.int .i64 a.fi)
  c3 : w.cell? ⟨g, 3, none⟩ = some (.int .i64 a.pg)
  c4 : w.cell? ⟨g, 4, none⟩ = some (.bool a.wr)
  f : ∀ i, i < 5 → w.frozen? ⟨g, i, none⟩ = false
theorem Blk.below {w w' : World} {g : Nat} {a : Ar} (h : Blk w g a) (hb : Below w.heap.size w w') : Blk w' g a :=
  ⟨Nat.lt_of_lt_of_le h.hi hb.size, by rw [hb.cell h.hi]; exact h.c0, by rw [hb.cell h.hi]; exact h.c1, by rw [hb.cell h.hi]; exact h.c2, by rw [hb.cell h.hi]; exact h.c3, by rw [hb.cell h.hi]; exact h.c4, fun i hi => by rw [hb.frozen h.hi]; exact h.f i hi⟩
theorem Blk.tock {w w' : World} {g t : Nat} {a : Ar} (h : Blk w g a) (hk : Tock t w w') (hg : g ≠ t) : Blk w' g a :=
  ⟨Nat.lt_of_lt_of_le h.hi hk.size, by rw [hk.cell hg h.hi]; exact h.c0, by rw [hk.cell hg h.hi]; exact h.c1, by rw [hk.cell hg h.hi]; exact h.c2, by rw [hk.cell hg h.hi]; exact h.c3, by rw [hk.cell hg h.hi]; exact h.c4, fun i hi => by rw [hk.frozen hg h.hi]; exact h.f i hi⟩
theorem Blk.new (w : World) (s c f p : Int) (b : Bool) : Blk (w.alloc (.cells #[.int .i64 s, .int .i64 c, .int .i64 f, .int .i64 p, .bool b] 139)) w.heap.size ⟨s, c, f, p, b⟩ :=
  ⟨by simp, by simp, by simp, by simp, by simp, by simp, fun i _ => by simp⟩
def withinB (s c m : Int) : Bool := decide (0 ≤ s ∧ 1 ≤ c ∧ s ≤ m ∧ c ≤ m - s)
def rightB (a : Ar) : Bool := decide (0 ≤ a.st ∧ 1 ≤ a.cn ∧ a.st + a.cn ≤ 64 ∧ 0 ≤ a.pg ∧ a.pg + a.cn ≤ 8 ∧ 0 ≤ a.fi ∧ a.fi < 8)
theorem within_any (s c m : Int) (w : World) (hm : 0 ≤ m) (hm2 : m ≤ 64) : Calls Tryz.prog 135 #[.int .i64 s, .int .i64 c, .int .i64 m] w fun e w' => e = .returned (.bool (withinB s c m)) ∧ w = w' := by
  by_cases h : 0 ≤ s ∧ 1 ≤ c ∧ s ≤ m ∧ c ≤ m - s
  · rw [show withinB s c m = true from decide_eq_true h]
    obtain ⟨h1, h2, h3, h4⟩ := h
    go_enter Tryz.func135, Tryz.ntmps135
    go_wp2_with fail
    all_goals first | (exfalso; omega) | (go_ret; exact ⟨by simp; omega, rfl⟩) | (go_ret; exact ⟨rfl, rfl⟩)
  · rw [show withinB s c m = false from decide_eq_false h]
    have HN := Lib.hid h
    clear h
    go_enter Tryz.func135, Tryz.ntmps135
    go_wp2_with fail
    all_goals first | (exfalso; have := HN.out; omega) | (go_ret; exact ⟨rfl, rfl⟩) | (go_ret; refine ⟨?_, rfl⟩; show Ending.returned (Value.bool (decide (c ≤ m - s))) = _; rw [decide_eq_false (by have := HN.out; omega)])
theorem rightB_eq (a : Ar) : rightB a = (withinB a.st a.cn 64 && (withinB a.pg a.cn 8 && decide (0 ≤ a.fi ∧ a.fi < 8))) := by
  unfold rightB withinB
  rw [Bool.eq_iff_iff]
  simp only [decide_eq_true_eq, Bool.and_eq_true]
  omega

set_option maxHeartbeats 1000000 in
theorem right_any (a : Ar) (w : World) : Calls Tryz.prog 132 #[.agg #[.int .i64 a.st, .int .i64 a.cn, .int .i64 a.fi, .int .i64 a.pg, .bool a.wr]] w (RetW (.bool (rightB a)) w) := by
  have HR := Lib.hid (rightB_eq a)
  have h1 := fun w => within_any a.st a.cn 64 w (by omega) (by omega)
  have h2 := fun w => within_any a.pg a.cn 8 w (by omega) (by omega)
  generalize rightB a = r at *
  obtain ⟨s, c, f, p, wr⟩ := a
  simp only at *
  generalize hb1 : withinB s c 64 = b1 at *
  generalize hb2 : withinB p c 8 = b2 at *
  clear hb1 hb2
  have H1 := Lib.hid h1; have H2 := Lib.hid h2
  clear h1 h2
  go_enter Tryz.func132, Tryz.ntmps132
  go_wp2_with fail
  refine (H1.out _).mono ?_; rintro e w1 ⟨rfl, rfl⟩
  cases b1 with
  | false =>
    go_wp2_with fail
    go_ret
    exact RetW.mk (by rw [HR.out]; rfl) ((Below.refl _ w).alloc (Nat.le_refl _) _)
  | true =>
    go_wp2_with fail
    refine (H2.out _).mono ?_; rintro e w2 ⟨rfl, rfl⟩
    cases b2 with
    | false =>
      go_wp2_with fail
      go_ret
      exact RetW.mk (by rw [HR.out]; rfl) ((Below.refl _ w).alloc (Nat.le_refl _) _)
    | true =>
      by_cases h : 0 ≤ f ∧ f < 8
      · rw [decide_eq_true h] at HR
        obtain ⟨h1, h2⟩ := h
        go_wp2_with fail
        go_ret
        exact RetW.mk (by rw [HR.out]; simp) ((Below.refl _ w).alloc (Nat.le_refl _) _)
      · rw [decide_eq_false h] at HR
        have HN := Lib.hid h
        clear h
        go_wp2_with fail
        all_goals first | (exfalso; have := HN.out; omega) | (go_ret; exact RetW.mk (by rw [HR.out]; rfl) ((Below.refl _ w).alloc (Nat.le_refl _) _)) | (go_ret; refine RetW.mk ?_ ((Below.refl _ w).alloc (Nat.le_refl _) _); rw [HR.out]; show Value.bool (decide (f < 8)) = _; rw [decide_eq_false (by have := HN.out; omega)]; rfl)
theorem end_any (a : Ar) (w : World) (h : -4611686018427387904 ≤ a.st + a.cn) (h2 : a.st + a.cn ≤ 4611686018427387904) : Calls Tryz.prog 133 #[.agg #[.int .i64 a.st, .int .i64 a.cn, .int .i64 a.fi, .int .i64 a.pg, .bool a.wr]] w (RetW (.int .i64 (a.st + a.cn)) w) := by
  obtain ⟨s, c, f, p, wr⟩ := a
  simp only at *
  go_enter Tryz.func133, Tryz.ntmps133
  go_wp2_with fail
  go_ret
  exact RetW.mk rfl ((Below.refl _ w).alloc (Nat.le_refl _) _)
end Go.Proofs.YtimhaidiclbnhaaGreat.Ara
/- Checking a list of areas. -/
set_option linter.unusedSimpArgs false
set_option linter.unusedVariables false
set_option maxRecDepth 100000
namespace Go.Proofs.YtimhaidiclbnhaaGreat.Ara
open Go.ChangeShapes Go.WideShapes Go.ChangeAt Go.RowKit

/-- where the areas ahead of place k end -/
def lastAt (l : List Ar) (k : Nat) : Int := if k = 0 then 0 else (l.getD (k - 1) Ar.zero).st + (l.getD (k - 1) Ar.zero).cn
def okAt (l : List Ar) (i : Nat) : Bool := rightB (l.getD i Ar.zero) && decide (lastAt l i ≤ (l.getD i Ar.zero).st)
def chkTo (l : List Ar) (k : Nat) : Bool := (List.range k).all (okAt l)
def checkV (l : List Ar) : Bool := chkTo l l.length && decide (l.length ≤ 8)
theorem chkTo_succ (l : List Ar) (k : Nat) : chkTo l (k + 1) = (chkTo l k && okAt l k) := by
  unfold chkTo; rw [List.range_succ, List.all_append]; simp
theorem chkTo_false {l : List Ar} {k n : Nat} (h : okAt l k = false) (hk : k < n) : chkTo l n = false := by
  unfold chkTo
  rw [List.all_eq_false]
  exact ⟨k, List.mem_range.2 hk, by rw [h]; simp⟩
theorem lastAt_succ (l : List Ar) (k : Nat) : lastAt l (k + 1) = (l.getD k Ar.zero).st + (l.getD k Ar.zero).cn := by simp [lastAt]
/-- a row's facts at a world: for the walks -/
theorem ARow.at {B cap : Nat} {a : Option Addr} {l : List Ar} {w : World} (h : ARow B a cap l w) (hl : 0 < l.length) : ∃ g, a = some ⟨g, 0, none⟩ ∧ B ≤ g ∧ g < w.heap.size ∧ l.length ≤ cap ∧ cap ≤ maxLen ∧ ∀ j, j < l.length → Cel w g (j * 5) (l.getD j Ar.zero) := by
  rcases h with ⟨_, h2, _⟩ | h
  · rw [h2] at hl; exact absurd hl (Nat.lt_irrefl _)
  · exact h
theorem rightB_iff {a : Ar} : rightB a = true ↔ (0 ≤ a.st ∧ 1 ≤ a.cn ∧ a.st + a.cn ≤ 64 ∧ 0 ≤ a.pg ∧ a.pg + a.cn ≤ 8 ∧ 0 ≤ a.fi ∧ a.fi < 8) := by simp [rightB]

set_option maxHeartbeats 4000000 in
theorem check_any (B : Nat) (a : Option Addr) (l : List Ar) (cap : Nat) (w : World) (h : ARow B a cap l w) (hl : l.length ≤ 100) :
    Calls Tryz.prog 131 #[.slice a l.length cap] w (RetW (.bool (checkV l)) w) := by
  have HA : Hid (∀ j, j < l.length → ∃ g, a = some ⟨g, 0, none⟩ ∧ g < w.heap.size ∧ (l.length : Int) ≤ cap ∧ Cel w g (j * 5) (l.getD j Ar.zero)) := by
    intro j hj
    obtain ⟨g, h1, h2, h3, h4, h5, h6⟩ := h.at (by omega)
    exact ⟨g, h1, h3, by omega, h6 j hj⟩
  clear h
  go_enter Tryz.func131, Tryz.ntmps131
  go_wp2_with fail
  go_loopw [3, 8] (fun v3 v8 wr => ∃ k : Nat, k ≤ l.length ∧ v3 = .int .i64 (lastAt l k) ∧ v8 = .int .i64 k ∧ Hid (Below w.heap.size w wr) ∧ Hid (chkTo l k = true)) (fun _ v8 _ => 200 - (intOf v8).toNat)
  case atStart => exact ⟨0, Nat.zero_le _, rfl, rfl, Below.refl _ _, rfl⟩
  case round =>
    obtain ⟨k, hk, rfl, rfl, HB, HC⟩ := hrel
    by_cases hlt : k < l.length
    · have hlt' : (k : Int) < (l.length : Int) := by omega
      obtain ⟨g, rfl, hg, hcap, hcel⟩ := HA.out k hlt
      have hcw := hcel.eq (w' := wr) (fun i => HB.out.cell (p := ⟨g, i, none⟩) hg)
      have hst := chkTo_succ l k
      have hfa := @chkTo_false l k l.length
      have hla := lastAt_succ l k
      have hok : okAt l k = (rightB (l.getD k Ar.zero) && decide (lastAt l k ≤ (l.getD k Ar.zero).st)) := rfl
      rw [hok] at hst hfa
      rw [HC.out, Bool.true_and] at hst
      clear hcel hok
      generalize l.getD k Ar.zero = e at *
      obtain ⟨s, c, f, p, wb⟩ := e
      simp only at hla hst hfa
      have HLA := Lib.hid hla
      clear hla
      obtain ⟨k0, k1, k2, k3, k4⟩ := hcw
      simp only at k0 k1 k2 k3 k4
      have hright := fun w => right_any ⟨s, c, f, p, wb⟩ w
      simp only at hright
      have HR := Lib.hid hright
      have hg2 : g < wr.heap.size := Nat.lt_of_lt_of_le hg HB.out.size
      have hends : rightB ⟨s, c, f, p, wb⟩ = true → 0 ≤ s ∧ 1 ≤ c ∧ s + c ≤ 64 := fun h => by
        have := rightB_iff.1 h
        exact ⟨this.1, this.2.1, this.2.2.1⟩
      generalize rightB ⟨s, c, f, p, wb⟩ = rb at *
      generalize lastAt l k = la at *
      clear hright
      have HST := Lib.hid hst
      have HFA := Lib.hid hfa
      clear hst hfa HA
      go_wp2_with fail
      have hbl := Blk.new wr s c f p wb
      have HB2 : Hid (Below w.heap.size w (wr.alloc (Obj.cells #[Value.int IntKind.i64 s, Value.int IntKind.i64 c, Value.int IntKind.i64 f, Value.int IntKind.i64 p, Value.bool wb] 139))) := HB.out.alloc HB.out.size _
      generalize wr.alloc (Obj.cells #[Value.int IntKind.i64 s, Value.int IntKind.i64 c, Value.int IntKind.i64 f, Value.int IntKind.i64 p, Value.bool wb] 139) = w2 at *
      generalize wr.heap.size = A at *
      refine (HR.out _).mono ?_; rintro e w3 ⟨rfl, hb⟩
      replace HB2 := Lib.hid (HB2.out.trans (hb.mono HB2.out.size))
      replace hbl := hbl.below hb
      clear hb k0 k1 k2 k3 k4
      have c0 := hbl.c0; have c1 := hbl.c1; have c2 := hbl.c2; have c3 := hbl.c3; have c4 := hbl.c4
      simp only at c0 c1 c2 c3 c4
      cases rb with
      | false =>
        have hF := HFA.out rfl hlt
        go_wp2_with fail
        go_ret
        exact RetW.mk (by unfold checkV; rw [hF]; rfl) HB2.out
      | true =>
        by_cases hla : la ≤ s
        · obtain ⟨e1, e2, e3⟩ := hends rfl
          have hT := HST.out
          rw [decide_eq_true hla] at hT
          have HE := Lib.hid (fun w => end_any ⟨s, c, f, p, wb⟩ w (by simp only; omega) (by simp only; omega))
          simp only at HE
          have HT := Lib.hid hT
          clear hT
          go_wp2_with fail
          refine (HE.out _).mono ?_; rintro e w4 ⟨rfl, hb⟩
          replace HB2 := Lib.hid (HB2.out.trans (hb.mono HB2.out.size))
          clear hb
          go_wp2_with fail
          go_roundw
          case rel => exact ⟨k + 1, by omega, by rw [HLA.out], by go_num, HB2, HT⟩
          case measure => simp [intOf]; omega
        · have hF := HFA.out (by rw [decide_eq_false hla]; rfl) hlt
          have hla2 : s < la := by omega
          go_wp2_with fail
          go_ret
          exact RetW.mk (by unfold checkV; rw [hF]; rfl) HB2.out
    · obtain rfl : k = l.length := by omega
      have HV : Hid (checkV l = decide (l.length ≤ 8)) := by unfold Hid checkV; rw [HC.out, Bool.true_and]
      by_cases h8 : l.length ≤ 8
      · have h9 : (l.length : Int) ≤ 8 := by omega
        rw [decide_eq_true h8] at HV
        go_wp2_with fail
        go_ret
        exact RetW.mk (by rw [HV.out]; simp [h8]) HB.out
      · have h9 : (8 : Int) < (l.length : Int) := by omega
        rw [decide_eq_false h8] at HV
        go_wp2_with fail
        go_ret
        exact RetW.mk (by rw [HV.out]; simp [h8]; omega) HB.out

end Go.Proofs.YtimhaidiclbnhaaGreat.Ara
