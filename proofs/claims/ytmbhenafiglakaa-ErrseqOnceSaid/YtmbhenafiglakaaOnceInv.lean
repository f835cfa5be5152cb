/- The walk of ErrseqOnce: what holds between its steps. -/
import Derived.Test.YtmbhenafiglakaaOnce
namespace Go.Proofs.Ytmbhenafiglakaa
open Go.ChangeShapes Go.WideShapes Go.ChangeAt Go.RowKit

theorem info3 : (Try.prog.info? 3).map (fun i => (i.zero, i.size, i.bytes)) = some (some (.int .i64 0), 1, 8) := by kernel_rfl
theorem info22 : (Try.prog.info? 22).map (fun i => (i.zero, i.size, i.bytes)) = some (some (.int .i64 0), 1, 8) := by kernel_rfl
theorem at_old {w : World} {o : Obj} {b k : Nat} (h : b < w.heap.size) : (w.alloc o).cell? ⟨b, k, none⟩ = w.cell? ⟨b, k, none⟩ ∧ (w.alloc o).frozen? ⟨b, k, none⟩ = w.frozen? ⟨b, k, none⟩ :=
  ⟨((Below.refl w.heap.size w).alloc (Nat.le_refl _) o).cell (p := ⟨b, k, none⟩) h, ((Below.refl w.heap.size w).alloc (Nat.le_refl _) o).frozen (p := ⟨b, k, none⟩) h⟩
theorem begun (w : World) (x0 x1 y0 y1 : Value) (T1 T2 : TypeId) (o3 o4 : Obj) :
    ∀ W, W = (((w.alloc (.cells #[x0, x1] T1)).alloc (.cells #[y0, y1] T2)).alloc o3).alloc o4 →
    Below w.heap.size w W ∧ W.heap.size = w.heap.size + 4 ∧ W.cell? ⟨w.heap.size, 0, none⟩ = some x0 ∧ W.cell? ⟨w.heap.size, 1, none⟩ = some x1 ∧ W.frozen? ⟨w.heap.size, 1, none⟩ = false ∧
    W.cell? ⟨w.heap.size + 1, 0, none⟩ = some y0 ∧ W.cell? ⟨w.heap.size + 1, 1, none⟩ = some y1 ∧ W.frozen? ⟨w.heap.size + 1, 0, none⟩ = false ∧ W.frozen? ⟨w.heap.size + 1, 1, none⟩ = false := by
  rintro W rfl
  refine ⟨((((Below.refl _ _).alloc (Nat.le_refl _) _).alloc (by simp) _).alloc (by first | (simp; done) | (simp; omega)) _).alloc (by first | (simp; done) | (simp; omega)) _, by simp, ?_, ?_, ?_, ?_, ?_, ?_, ?_⟩
  · rw [(at_old (by first | (simp; done) | (simp; omega))).1, (at_old (by first | (simp; done) | (simp; omega))).1, (at_old (by simp)).1]; simp
  · rw [(at_old (by first | (simp; done) | (simp; omega))).1, (at_old (by first | (simp; done) | (simp; omega))).1, (at_old (by simp)).1]; simp
  · rw [(at_old (by first | (simp; done) | (simp; omega))).2, (at_old (by first | (simp; done) | (simp; omega))).2, (at_old (by simp)).2]; simp
  · rw [(at_old (by first | (simp; done) | (simp; omega))).1, (at_old (by simp)).1]; simp
  · rw [(at_old (by first | (simp; done) | (simp; omega))).1, (at_old (by simp)).1]; simp
  · rw [(at_old (by first | (simp; done) | (simp; omega))).2, (at_old (by simp)).2]; simp
  · rw [(at_old (by first | (simp; done) | (simp; omega))).2, (at_old (by simp)).2]; simp

structure OInv (w : World) (a : Option Addr) (len cap : Nat) (C E : Int) (cs ws : List Int) (v5 v6 : Value) (wr : World) : Prop where
  tape : ∃ k, TapeAt w wr w.heap.size a len cap k
  c0 : 0 ≤ C
  ce : C = 0 ↔ E = 0
  e0 : wr.cell? ⟨w.heap.size + 1, 0, none⟩ = some (.int .i64 C)
  e1 : wr.cell? ⟨w.heap.size + 1, 1, none⟩ = some (.int .i64 E)
  f0 : wr.frozen? ⟨w.heap.size + 1, 0, none⟩ = false
  f1 : wr.frozen? ⟨w.heap.size + 1, 1, none⟩ = false
  hz : w.heap.size + 1 < wr.heap.size
  lo : ∀ c ∈ cs, 0 ≤ c
  hi : ∀ c ∈ cs, c ≤ C
  own5 : wr.ownsRow (w.heap.size + 2) 3 1 v5 cs.length (cs.map (Value.int .i64))
  own6 : wr.ownsRow (w.heap.size + 2) 22 1 v6 ws.length (ws.map (Value.int .i64))

section
variable {w wr w' : World} {a : Option Addr} {len cap : Nat} {C E : Int} {cs ws : List Int} {v5 v6 : Value}
theorem OInv.drewN (h : OInv w a len cap C E cs ws v5 v6 wr) (q : Nat) : OInv w a len cap C E cs ws v5 v6 (wr.drewN q) :=
  ⟨by obtain ⟨k, ht⟩ := h.tape; exact ⟨k, ht.below (below_drewN (Below.refl wr.heap.size wr) q) ht.hi⟩, h.c0, h.ce, h.e0, h.e1, h.f0, h.f1, h.hz, h.lo, h.hi, h.own5, h.own6⟩
theorem OInv.tick {k : Nat} (h : OInv w a len cap C E cs ws v5 v6 wr) (hk : Tick w.heap.size wr w') (ht : TapeAt w w' w.heap.size a len cap k) : OInv w a len cap C E cs ws v5 v6 w' :=
  ⟨⟨k, ht⟩, h.c0, h.ce, (hk.cell (by omega)).trans h.e0, (hk.cell (by omega)).trans h.e1, (hk.frozen (by omega)).trans h.f0, (hk.frozen (by omega)).trans h.f1, by rw [hk.size]; exact h.hz, h.lo, h.hi, hk.own h.own5 (by omega), hk.own h.own6 (by omega)⟩
theorem OInv.below (h : OInv w a len cap C E cs ws v5 v6 wr) (hb : Below wr.heap.size wr w') : OInv w a len cap C E cs ws v5 v6 w' :=
  ⟨by obtain ⟨k, ht⟩ := h.tape; exact ⟨k, ht.below hb ht.hi⟩, h.c0, h.ce, (hb.cell (p := ⟨_, 0, none⟩) h.hz).trans h.e0, (hb.cell (p := ⟨_, 1, none⟩) h.hz).trans h.e1, (hb.frozen (p := ⟨_, 0, none⟩) h.hz).trans h.f0, (hb.frozen (p := ⟨_, 1, none⟩) h.hz).trans h.f1,
    Nat.lt_of_lt_of_le h.hz hb.size, h.lo, h.hi, own_below h.own5 hb (Nat.le_refl _), own_below h.own6 hb (Nat.le_refl _)⟩
theorem OInv.setE (h : OInv w a len cap C E cs ws v5 v6 wr) {C' E' : Int} (hC : C ≤ C') (he : C' = 0 ↔ E' = 0) :
    OInv w a len cap C' E' cs ws v5 v6 ((wr.setCell ⟨w.heap.size + 1, 0, none⟩ (.int .i64 C')).setCell ⟨w.heap.size + 1, 1, none⟩ (.int .i64 E')) := by
  have k1 : (wr.setCell ⟨w.heap.size + 1, 0, none⟩ (.int .i64 C')).cell? ⟨w.heap.size + 1, 1, none⟩ = some (.int .i64 E) := by
    rw [World.cell?_setCell_other]
    · exact h.e1
    · simp
  refine ⟨?_, by have := h.c0; omega, he, ?_, World.cell?_setCell_same _ _ _ k1, ?_, ?_, ?_, h.lo, fun c hc => by have := h.hi c hc; omega, ?_, ?_⟩
  · obtain ⟨k, ht⟩ := h.tape
    exact ⟨k, ht.below (B := w.heap.size + 1) (((Below.refl _ _).setCell (p := ⟨w.heap.size + 1, 0, none⟩) (Nat.le_refl _) _).setCell (p := ⟨w.heap.size + 1, 1, none⟩) (Nat.le_refl _) _) (by omega)⟩
  · rw [World.cell?_setCell_other]
    · exact World.cell?_setCell_same _ _ _ h.e0
    · simp
  · rw [World.frozen?_setCell, World.frozen?_setCell]; exact h.f0
  · rw [World.frozen?_setCell, World.frozen?_setCell]; exact h.f1
  · have := h.hz; simpa [World.setCell] using this
  · exact ownsRow_setCell_below (ownsRow_setCell_below h.own5 (by simp) _) (by simp) _
  · exact ownsRow_setCell_below (ownsRow_setCell_below h.own6 (by simp) _) (by simp) _
theorem OInv.set6 {g n c : Nat} (h : OInv w a len cap C E cs ws v5 (.slice (some ⟨g, 0, none⟩) n c) wr) (hg : w.heap.size + 2 ≤ g) (hn : n = ws.length) (i : Nat) (x : Int) :
    OInv w a len cap C E cs (ws.set i x) v5 (.slice (some ⟨g, 0, none⟩) n c) (wr.setCell ⟨g, i, none⟩ (.int .i64 x)) := by
  subst hn
  have hb : Below (w.heap.size + 2) wr (wr.setCell ⟨g, i, none⟩ (.int .i64 x)) := (Below.refl _ _).setCell (p := ⟨g, i, none⟩) hg _
  obtain ⟨k, ht⟩ := h.tape
  refine ⟨⟨k, ht.below hb (by omega)⟩, h.c0, h.ce, (hb.cell (p := ⟨_, 0, none⟩) (by simp)).trans h.e0, (hb.cell (p := ⟨_, 1, none⟩) (by simp)).trans h.e1, (hb.frozen (p := ⟨_, 0, none⟩) (by simp)).trans h.f0, (hb.frozen (p := ⟨_, 1, none⟩) (by simp)).trans h.f1, Nat.lt_of_lt_of_le h.hz hb.size, h.lo, h.hi, ?_, ?_⟩
  · refine ownsRow_setCell_other h.own5 ?_ _
    rcases own_apart h.own5 h.own6 (by decide) with e | e
    · rw [e]; simp
    · exact e
  · have := (h.own6.stored i (.int .i64 x)).1
    rw [List.length_set, List.map_set]; exact this
theorem OInv.set5 {g n c : Nat} (h : OInv w a len cap C E cs ws (.slice (some ⟨g, 0, none⟩) n c) v6 wr) (hg : w.heap.size + 2 ≤ g) (hn : n = cs.length) (i : Nat) (x : Int) (x0 : 0 ≤ x) (x1 : x ≤ C) :
    OInv w a len cap C E (cs.set i x) ws (.slice (some ⟨g, 0, none⟩) n c) v6 (wr.setCell ⟨g, i, none⟩ (.int .i64 x)) := by
  subst hn
  have hb : Below (w.heap.size + 2) wr (wr.setCell ⟨g, i, none⟩ (.int .i64 x)) := (Below.refl _ _).setCell (p := ⟨g, i, none⟩) hg _
  obtain ⟨k, ht⟩ := h.tape
  refine ⟨⟨k, ht.below hb (by omega)⟩, h.c0, h.ce, (hb.cell (p := ⟨_, 0, none⟩) (by simp)).trans h.e0, (hb.cell (p := ⟨_, 1, none⟩) (by simp)).trans h.e1, (hb.frozen (p := ⟨_, 0, none⟩) (by simp)).trans h.f0, (hb.frozen (p := ⟨_, 1, none⟩) (by simp)).trans h.f1, Nat.lt_of_lt_of_le h.hz hb.size, ?_, ?_, ?_, ?_⟩
  · intro y hy; rcases List.mem_or_eq_of_mem_set hy with h1 | rfl
    · exact h.lo y h1
    · exact x0
  · intro y hy; rcases List.mem_or_eq_of_mem_set hy with h1 | rfl
    · exact h.hi y h1
    · exact x1
  · have := (h.own5.stored i (.int .i64 x)).1
    rw [List.length_set, List.map_set]; exact this
  · refine ownsRow_setCell_other h.own6 ?_ _
    rcases own_apart h.own6 h.own5 (by decide) with e | e
    · rw [e]; simp
    · exact e
end
theorem right_once {C E : Int} (h0 : 0 ≤ C) (h1 : C ≤ 60) (he : C = 0 ↔ E = 0) : rightB C E = true := by
  unfold rightB
  by_cases h : C = 0
  · simp [h, he.1 h]
  · have h2 : E ≠ 0 := fun e => h (he.2 e)
    have e1 : (C == 0) = false := by simpa using h
    have e2 : (E == 0) = false := by simpa using h2
    rw [e1, e2]; simp; omega
theorem rec_once {C E r : Int} (h0 : 0 ≤ C) (h1 : C ≤ 60) (he : C = 0 ↔ E = 0) (r0 : 0 ≤ r) : recS C E (10 + r) = (C + 1, 10 + r, 0) := by
  unfold recS
  have hr := right_once h0 h1 he
  rw [if_neg, if_neg (by omega)]
  rintro (h | h)
  · rw [hr] at h; cases h
  · omega
end Go.Proofs.Ytmbhenafiglakaa
