/- Histories: the document's way of adding a state, and synchronisations. -/
import Derived.Test.YtebdnnfaghhpkaaHc
namespace Go.Proofs.Ytebdnnfaghhpkaa
open Go.ChangeShapes Go.WideShapes Go.ChangeAt Go.RowKit

theorem wp_app0 {o : Oper} {a : Act} {w : World} {K : Act → World → Prop} {Q : Exit → Act → World → Prop} (s x : Operand)
    (ho : o.op = .call { callee := .builtin .append, args := #[s, x], argTypes := #[38, 38] })
    (base : Nat) (hs : a.eval s = .slice none 0 0)
    (B : Nat) (ad : Option Addr) (m : List ByteArray) (cap : Nat) (hx : a.eval x = .slice ad m.length cap) (hr : StrRow B ad cap m w)
    (hm : m.length ≤ 100000) (hbase : base ≤ w.heap.size)
    (h : ∀ a' cap' w', w'.ownsRow base 9 1 (.slice a' m.length cap') m.length (m.map Value.string) → StrRow base a' cap' m w' → Below w.heap.size w w' → K (a.put o.dst (.slice a' m.length cap')) w') : o.wp Try.prog a w K Q :=
  wp_app s x ho w.heap.size (.slice none 0 0) [] hs (World.ownsRow_nil _ _ _ _) B ad m cap hx hr (by simp) hm (Nat.le_refl _) (fun a' cap' w' h1 h2 h3 => h a' cap' w' (own_mono h1 hbase) (h2.mono hbase) h3)

set_option maxHeartbeats 4000000 in
theorem changeR_any (B : Nat) (a : Option Addr) (l : List ByteArray) (cap : Nat) (q : Int) (s : ByteArray) (w : World) (h : StrRow B a cap l w) (hl : l.length ≤ 10000) :
    Calls Try.prog 28 #[.agg #[.slice a l.length cap, .int .i64 q], .string s] w fun e w' => ∃ a' cap', e = .returned (.agg #[.slice a' (l.length + 1) cap', .int .i64 q]) ∧ StrRow w.heap.size a' cap' (l ++ [s]) w' ∧ Below w.heap.size w w' := by
  have HR : Hid (∀ W, Hst w W (.slice a l.length cap) q → StrRow B a cap l W) := fun W hW => h.below hW.bel
  clear h
  go_enter Try.func28, Try.ntmps28
  go_wp2_with fail
  have H0 := Lib.hid (Hst.start w (.slice a l.length cap) q)
  generalize (w.alloc (Obj.cells #[.slice a l.length cap, .int .i64 q] 40)).alloc (Obj.cells #[.slice none 0 0, .int .i64 0] 40) = W0 at *
  have p0 := H0.out.p0
  have p1 := H0.out.p1
  have plt : w.heap.size < W0.heap.size := Nat.lt_of_lt_of_le (by omega) H0.out.lt
  have plt2 : w.heap.size + 1 < W0.heap.size := Nat.lt_of_lt_of_le (by omega) H0.out.lt
  replace H0 := Lib.hid (H0.out.below (Below.refl _ _).drew H0.out.lt)
  go_region_held3 (fun w' => w'.cell? ⟨w.heap.size, 0, none⟩ = some (.slice a l.length cap) ∧ w'.cell? ⟨w.heap.size, 1, none⟩ = some (.int .i64 q)) (go_keep) (first | (rw [if_pos (by rfl)]; refine wp_app0 (Operand.const (.slice none 0 0)) (Operand.tmp 6) rfl (w.heap.size + 2) rfl B a l cap rfl ?_ (by omega) ?_ ?_; (first | exact HR.out _ H0.out | exact HR.out _ (H0.out.below ((Below.refl _ _).alloc (Nat.le_refl _) _) H0.out.lt)); (first | exact H0.out.lt | exact (H0.out.below ((Below.refl _ _).alloc (Nat.le_refl _) _) H0.out.lt).lt); intro a1 cap1 w1 ho hr1 hb1; have H1 : Hst w w1 (.slice a l.length cap) q := (by first | exact H0.out.below hb1 H0.out.lt | exact (H0.out.below ((Below.refl _ _).alloc (Nat.le_refl _) _) H0.out.lt).below hb1 (Nat.le_trans H0.out.lt (by simp))); have klt : w.heap.size < w1.heap.size := Nat.lt_of_lt_of_le (by omega) H1.lt; have k0 := H1.p0; have k1 := H1.p1) | (rw [if_pos (by rfl)]; refine wp_app (Operand.tmp 7) (Operand.tmp 9) rfl (w.heap.size + 2) (.slice a1 l.length cap1) l rfl ?_ 0 _ [s] 1 rfl ?_ (by omega) (by simp) ?_ ?_; (first | exact ho | exact ho.alloc _); (first | exact StrRow.one_new _ _ _ | exact (StrRow.one_new _ _ _).below hb1 | exact ((StrRow.one_new _ _ _).below (Below.refl _ _).drew).below hb1); (first | exact H1.lt | exact Nat.le_trans H1.lt (by simp)); intro a2 cap2 w2 ho2 hr2 hb2; have H2 : Hst w w2 (.slice a l.length cap) q := (by first | exact H1.below hb2 (Nat.le_refl _) | exact (H1.below ((Below.refl _ _).alloc (Nat.le_refl _) _) H1.lt).below hb2 (Nat.le_refl _)); have k0' := H2.p0; have k1' := H2.p1; obtain ⟨u0, r0⟩ := H2.r0; obtain ⟨u1, r1⟩ := H2.r1; have f0 := H2.f0; have f1 := H2.f1))
  all_goals
    have HD := H2.done (.slice a2 (l.length + 1) cap2) q hr2
    generalize (w2.setCell { block := w.heap.size + 1, off := 0 } (Value.slice a2 (l.length + 1) cap2)).setCell { block := w.heap.size + 1, off := 1 } (Value.int IntKind.i64 q) = W3 at *
    obtain ⟨d0, d1, d2, d3⟩ := HD
    go_wp2_with fail
    refine bodyPost_ret (v := .agg #[.slice a2 (l.length + 1) cap2, .int .i64 q]) (by simp [results, Try.results28, go_sem, d0, d1]) rfl ⟨_, _, rfl, d3, d2⟩

/-- the place that is synchronised afterwards -/
def syncV (n : Nat) (q at_ : Int) : Int := if 0 ≤ at_ ∧ q < at_ ∧ at_ < n then at_ else q

set_option maxHeartbeats 4000000 in
theorem syncedR_any (a : Option Addr) (n cap : Nat) (q t : Int) (w : World) :
    Calls Try.prog 30 #[.agg #[.slice a n cap, .int .i64 q], .int .i64 t] w (RetW (.agg #[.slice a n cap, .int .i64 (syncV n q t)]) w) := by
  by_cases hc : 0 ≤ t ∧ q < t ∧ t < n
  · have HR : Hid (syncV n q t = t) := by unfold Hid syncV; rw [if_pos hc]
    obtain ⟨h0, h1, h2⟩ := hc
    go_enter Try.func30, Try.ntmps30
    go_wp2_with fail
    refine bodyPost_ret (v := .agg #[.slice a n cap, .int .i64 t]) (by simp [results, Try.results30, go_sem]) rfl ⟨by rw [HR.out], ?_⟩
    exact ((Below.refl _ w).alloc (Nat.le_refl _) _).alloc (by simp) _
  · have HR : Hid (syncV n q t = q) := by unfold Hid syncV; rw [if_neg hc]
    have HC : Hid (¬ (0 ≤ t ∧ q < t ∧ t < n)) := hc
    clear hc
    go_enter Try.func30, Try.ntmps30
    go_wp2_with fail
    all_goals
      first
      | (exfalso; have := HC.out; omega)
      | refine bodyPost_ret (v := .agg #[.slice a n cap, .int .i64 q]) (by simp [results, Try.results30, go_sem]) rfl ⟨by rw [HR.out], ?_⟩
    all_goals exact ((Below.refl _ w).alloc (Nat.le_refl _) _).alloc (by simp) _

/-- what is known behind the making of the answer's own history, in block g -/
structure Mid (w W : World) (s0 v : Value) (q : Int) (g : Nat) : Prop where
  h : Hst w W s0 q
  lo : w.heap.size + 2 ≤ g
  c0 : W.cell? ⟨g, 0, none⟩ = some v
  c1 : W.cell? ⟨g, 1, none⟩ = some (.int .i64 q)
  f0 : W.frozen? ⟨g, 0, none⟩ = false
  f1 : W.frozen? ⟨g, 1, none⟩ = false
theorem Mid.mk' {w W : World} {s0 u0 u1 : Value} {q : Int} {g : Nat} (h : Hst w W s0 q) (lo : w.heap.size + 2 ≤ g) (v : Value) (c0 : W.cell? ⟨g, 0, none⟩ = some u0) (c1 : W.cell? ⟨g, 1, none⟩ = some u1)
    (f0 : W.frozen? ⟨g, 0, none⟩ = false) (f1 : W.frozen? ⟨g, 1, none⟩ = false) :
    Mid w ((W.setCell ⟨g, 0, none⟩ v).setCell ⟨g, 1, none⟩ (.int .i64 q)) s0 v q g := by
  have hb : Below (w.heap.size + 2) W ((W.setCell ⟨g, 0, none⟩ v).setCell ⟨g, 1, none⟩ (.int .i64 q)) := ((Below.refl _ W).setCell (by show _ ≤ g; omega) v).setCell (by show _ ≤ g; omega) _
  have c1' : (W.setCell ⟨g, 0, none⟩ v).cell? ⟨g, 1, none⟩ = some u1 := by
    rw [World.cell?_setCell_other _ _ _ _ (by simp), c1]
  refine ⟨h.below hb (Nat.le_refl _), lo, ?_, World.cell?_setCell_same _ _ _ c1', by rw [World.frozen?_setCell, World.frozen?_setCell]; exact f0, by rw [World.frozen?_setCell, World.frozen?_setCell]; exact f1⟩
  rw [World.cell?_setCell_other _ _ _ _ (by simp)]
  exact World.cell?_setCell_same _ _ _ c0
theorem StrRow.put2 {B cap g : Nat} {a : Option Addr} {l : List ByteArray} {w : World} {v v' : Value} (h : StrRow B a cap l w) (hg : ∀ g', a = some ⟨g', 0, none⟩ → g' ≠ g) (i j : Nat) : StrRow B a cap l ((w.setCell ⟨g, i, none⟩ v).setCell ⟨g, j, none⟩ v') := by
  rcases h with h | ⟨g', h1, h2, h3, h4, h5, h6⟩
  · exact Or.inl h
  · refine Or.inr ⟨g', h1, h2, by simpa [World.setCell] using h3, h4, h5, fun k hk => ?_⟩
    have := hg g' h1
    rw [World.cell?_setCell_other _ _ _ _ (by intro e; cases e; omega), World.cell?_setCell_other _ _ _ _ (by intro e; cases e; omega)]
    exact h6 k hk
theorem StrRow.put1 {B cap g : Nat} {a : Option Addr} {l : List ByteArray} {w : World} {v : Value} (h : StrRow B a cap l w) (hg : ∀ g', a = some ⟨g', 0, none⟩ → g' ≠ g) (i : Nat) : StrRow B a cap l (w.setCell ⟨g, i, none⟩ v) := by
  rcases h with h | ⟨g', h1, h2, h3, h4, h5, h6⟩
  · exact Or.inl h
  · refine Or.inr ⟨g', h1, h2, by simpa [World.setCell] using h3, h4, h5, fun k hk => ?_⟩
    have := hg g' h1
    rw [World.cell?_setCell_other _ _ _ _ (by intro e; cases e; omega)]
    exact h6 k hk
theorem StrRow.ne_hi {B cap g : Nat} {a : Option Addr} {l : List ByteArray} {w : World} (h : StrRow B a cap l w) (hg : w.heap.size ≤ g) : ∀ g', a = some ⟨g', 0, none⟩ → g' ≠ g := by
  rintro g' rfl
  rcases h with ⟨h, _⟩ | ⟨g2, h1, h2, h3, _⟩
  · cases h
  · cases h1; omega
theorem StrRow.ne_lo {B cap g : Nat} {a : Option Addr} {l : List ByteArray} {w : World} (h : StrRow B a cap l w) (hg : g < B) : ∀ g', a = some ⟨g', 0, none⟩ → g' ≠ g := by
  rintro g' rfl
  rcases h with ⟨h, _⟩ | ⟨g2, h1, h2, h3, _⟩
  · cases h
  · cases h1; omega

set_option maxHeartbeats 4000000 in
theorem synced_any (B : Nat) (a : Option Addr) (l : List ByteArray) (cap : Nat) (q t : Int) (w : World) (h : StrRow B a cap l w) (hl : l.length ≤ 10000) :
    Calls Try.prog 29 #[.agg #[.slice a l.length cap, .int .i64 q], .int .i64 t] w fun e w' => ∃ a' cap', e = .returned (.agg #[.slice a' l.length cap', .int .i64 (syncV l.length q t)]) ∧ StrRow w.heap.size a' cap' l w' ∧ Below w.heap.size w w' := by
  have HC : Hid (∀ W, Hst w W (.slice a l.length cap) q → Calls Try.prog 40 #[.slice a l.length cap] W fun e w' => ∃ a1 cap1, e = .returned (.slice a1 l.length cap1) ∧ StrRow W.heap.size a1 cap1 l w' ∧ Below W.heap.size W w' ∧ Hst w w' (.slice a l.length cap) q) := by
    intro W hW
    refine (clone_any B a l cap W (h.below hW.bel) (by omega)).mono ?_
    rintro e w' ⟨v', rfl, ho, hb⟩
    obtain ⟨a1, cap1, rfl, _, hr⟩ := StrRow.ofOwn ho
    exact ⟨a1, cap1, rfl, hr, hb, hW.below hb hW.lt⟩
  clear h
  go_enter Try.func29, Try.ntmps29
  go_wp2_with fail
  have H0 := Lib.hid (Hst.start w (.slice a l.length cap) q)
  generalize (w.alloc (Obj.cells #[.slice a l.length cap, .int .i64 q] 40)).alloc (Obj.cells #[.slice none 0 0, .int .i64 0] 40) = W0 at *
  have p0 := H0.out.p0
  have p1 := H0.out.p1
  have plt : w.heap.size < W0.heap.size := Nat.lt_of_lt_of_le (by omega) H0.out.lt
  have plt2 : w.heap.size + 1 < W0.heap.size := Nat.lt_of_lt_of_le (by omega) H0.out.lt
  have pne : W0.heap.size ≠ w.heap.size := by omega
  have pne' : w.heap.size ≠ W0.heap.size := by omega
  replace H0 := Lib.hid (H0.out.below (Below.refl _ _).drew H0.out.lt)
  go_region_held3 (fun w' => w'.cell? ⟨w.heap.size, 0, none⟩ = some (.slice a l.length cap) ∧ w'.cell? ⟨w.heap.size, 1, none⟩ = some (.int .i64 q)) (go_keep) (first | (go_at_call 40; refine (HC.out _ (by first | exact H0.out | exact H0.out.below ((Below.refl _ _).alloc (Nat.le_refl _) _) H0.out.lt)).mono ?_; rintro e w1 ⟨a1, cap1, rfl, hr1, hb1, H1⟩; have klt : w.heap.size < w1.heap.size := Nat.lt_of_lt_of_le (by omega) H1.lt; have k0 := H1.p0; have k1 := H1.p1; obtain ⟨hc1, hf1⟩ := bcell hb1))
  · have M : Mid w (w1.alloc (Obj.cells #[Value.slice a1 l.length cap1, Value.int IntKind.i64 q] 40)) (.slice a l.length cap) (.slice a1 l.length cap1) q w1.heap.size := by
      refine ⟨H1.below ((Below.refl _ _).alloc (Nat.le_refl _) _) H1.lt, H1.lt, ?_, ?_, ?_, ?_⟩ <;> simp
    have HRw : StrRow (w.heap.size + 2) a1 cap1 l (w1.alloc (Obj.cells #[Value.slice a1 l.length cap1, Value.int IntKind.i64 q] 40)) := (hr1.mono H0.out.lt).below ((Below.refl _ _).alloc (Nat.le_refl _) _)
    have HN := hr1.ne_hi (Nat.le_refl _)
    generalize w1.alloc (Obj.cells #[Value.slice a1 l.length cap1, Value.int IntKind.i64 q] 40) = W2 at *
    generalize w1.heap.size = g at *
    clear hb1 hr1 klt k0 k1 H1 plt plt2 pne pne' p0 p1 HC
    have m0 := M.c0; have m1 := M.c1; have n0 := M.f0; have n1 := M.f1
    have q0 := M.h.p0; have q1 := M.h.p1; obtain ⟨u0, r0⟩ := M.h.r0; obtain ⟨u1, r1⟩ := M.h.r1; have f0 := M.h.f0; have f1 := M.h.f1
    have gne : g ≠ w.heap.size := by have := M.lo; omega
    have gne' : w.heap.size ≠ g := by have := M.lo; omega
    have gne2 : g ≠ w.heap.size + 1 := by have := M.lo; omega
    have gne2' : w.heap.size + 1 ≠ g := by have := M.lo; omega
    by_cases hc : 0 ≤ t ∧ q < t ∧ t < (l.length : Int)
    · have HV : Hid (syncV l.length q t = t) := by unfold Hid syncV; rw [if_pos hc]
      have M2 : Hst w (W2.setCell ⟨g, 1, none⟩ (.int .i64 t)) (.slice a l.length cap) q := M.h.below ((Below.refl _ _).setCell (p := ⟨g, 1, none⟩) M.lo _) (Nat.le_refl _)
      have HD := M2.done (.slice a1 l.length cap1) t (StrRow.put1 HRw HN 1)
      obtain ⟨h0, h1, h2⟩ := hc
      clear M2 M
      go_wp2_with fail
      generalize ((W2.setCell { block := g, off := 1 } (Value.int IntKind.i64 t)).setCell { block := w.heap.size + 1, off := 0 } (Value.slice a1 l.length cap1)).setCell { block := w.heap.size + 1, off := 1 } (Value.int IntKind.i64 t) = W3 at *
      obtain ⟨d0, d1, d2, d3⟩ := HD
      refine bodyPost_ret (v := .agg #[.slice a1 l.length cap1, .int .i64 t]) (by simp [results, Try.results29, go_sem, d0, d1]) rfl ⟨_, _, by rw [HV.out], d3, d2⟩
    · have HV : Hid (syncV l.length q t = q) := by unfold Hid syncV; rw [if_neg hc]
      have HC : Hid (¬ (0 ≤ t ∧ q < t ∧ t < (l.length : Int))) := hc
      have HD := M.h.done (.slice a1 l.length cap1) q HRw
      clear hc M
      go_wp2_with fail
      all_goals
        first
        | (exfalso; have := HC.out; omega)
        | (generalize (W2.setCell { block := w.heap.size + 1, off := 0 } (Value.slice a1 l.length cap1)).setCell { block := w.heap.size + 1, off := 1 } (Value.int IntKind.i64 q) = W3 at *
           obtain ⟨d0, d1, d2, d3⟩ := HD
           refine bodyPost_ret (v := .agg #[.slice a1 l.length cap1, .int .i64 q]) (by simp [results, Try.results29, go_sem, d0, d1]) rfl ⟨_, _, by rw [HV.out], d3, d2⟩)
  · have hb2 : Below (W0.heap.size + 1) (W0.alloc (Obj.cells #[Value.slice none 0 0, Value.int IntKind.i64 0] 40)) w1 := (((Below.refl _ _).drew).trans hb1).mono (by simp)
    have M : Mid w ((w1.setCell { block := W0.heap.size, off := 0 } (Value.slice a1 l.length cap1)).setCell { block := W0.heap.size, off := 1 } (Value.int IntKind.i64 q)) (.slice a l.length cap) (.slice a1 l.length cap1) q W0.heap.size := by
      refine Mid.mk' (u0 := .slice none 0 0) (u1 := .int .i64 0) H1 H0.out.lt _ ?_ ?_ ?_ ?_
      · rw [hb2.cell (by show W0.heap.size < _; omega)]; simp
      · rw [hb2.cell (by show W0.heap.size < _; omega)]; simp
      · rw [hb2.frozen (by show W0.heap.size < _; omega)]; simp
      · rw [hb2.frozen (by show W0.heap.size < _; omega)]; simp
    have HN := hr1.ne_lo (g := W0.heap.size) (by simp)
    have HRw : StrRow (w.heap.size + 2) a1 cap1 l ((w1.setCell { block := W0.heap.size, off := 0 } (Value.slice a1 l.length cap1)).setCell { block := W0.heap.size, off := 1 } (Value.int IntKind.i64 q)) := StrRow.put2 (hr1.mono (Nat.le_trans H0.out.lt (by simp))) HN 0 1
    generalize (w1.setCell { block := W0.heap.size, off := 0 } (Value.slice a1 l.length cap1)).setCell { block := W0.heap.size, off := 1 } (Value.int IntKind.i64 q) = W2 at *
    generalize W0.heap.size = g at *
    clear hb1 hr1 klt k0 k1 H1 plt plt2 pne pne' p0 p1 HC
    have m0 := M.c0; have m1 := M.c1; have n0 := M.f0; have n1 := M.f1
    have q0 := M.h.p0; have q1 := M.h.p1; obtain ⟨u0, r0⟩ := M.h.r0; obtain ⟨u1, r1⟩ := M.h.r1; have f0 := M.h.f0; have f1 := M.h.f1
    have gne : g ≠ w.heap.size := by have := M.lo; omega
    have gne' : w.heap.size ≠ g := by have := M.lo; omega
    have gne2 : g ≠ w.heap.size + 1 := by have := M.lo; omega
    have gne2' : w.heap.size + 1 ≠ g := by have := M.lo; omega
    by_cases hc : 0 ≤ t ∧ q < t ∧ t < (l.length : Int)
    · have HV : Hid (syncV l.length q t = t) := by unfold Hid syncV; rw [if_pos hc]
      have M2 : Hst w (W2.setCell ⟨g, 1, none⟩ (.int .i64 t)) (.slice a l.length cap) q := M.h.below ((Below.refl _ _).setCell (p := ⟨g, 1, none⟩) M.lo _) (Nat.le_refl _)
      have HD := M2.done (.slice a1 l.length cap1) t (StrRow.put1 HRw HN 1)
      obtain ⟨h0, h1, h2⟩ := hc
      clear M2 M
      go_wp2_with fail
      generalize ((W2.setCell { block := g, off := 1 } (Value.int IntKind.i64 t)).setCell { block := w.heap.size + 1, off := 0 } (Value.slice a1 l.length cap1)).setCell { block := w.heap.size + 1, off := 1 } (Value.int IntKind.i64 t) = W3 at *
      obtain ⟨d0, d1, d2, d3⟩ := HD
      refine bodyPost_ret (v := .agg #[.slice a1 l.length cap1, .int .i64 t]) (by simp [results, Try.results29, go_sem, d0, d1]) rfl ⟨_, _, by rw [HV.out], d3, d2⟩
    · have HV : Hid (syncV l.length q t = q) := by unfold Hid syncV; rw [if_neg hc]
      have HC : Hid (¬ (0 ≤ t ∧ q < t ∧ t < (l.length : Int))) := hc
      have HD := M.h.done (.slice a1 l.length cap1) q HRw
      clear hc M
      go_wp2_with fail
      all_goals
        first
        | (exfalso; have := HC.out; omega)
        | (generalize (W2.setCell { block := w.heap.size + 1, off := 0 } (Value.slice a1 l.length cap1)).setCell { block := w.heap.size + 1, off := 1 } (Value.int IntKind.i64 q) = W3 at *
           obtain ⟨d0, d1, d2, d3⟩ := HD
           refine bodyPost_ret (v := .agg #[.slice a1 l.length cap1, .int .i64 q]) (by simp [results, Try.results29, go_sem, d0, d1]) rfl ⟨_, _, by rw [HV.out], d3, d2⟩)
end Go.Proofs.Ytebdnnfaghhpkaa
