/- Pages in blocks that may be written. -/
import Derived.Test.YthimcidkmnobnaaCom
import Derived.Test.YthimcidkmnobnaaPln
namespace Go.Proofs.Ythimcidkmnobnaa
open Go.ChangeShapes Go.WideShapes Go.ChangeAt Go.RowKit

/-- block b holds the page p and may be written -/
structure Hs (w : World) (b : Nat) (p : Pg) : Prop extends Has w b p where
  fz : ∀ i, w.frozen? ⟨b, i, none⟩ = false
theorem Hs.new (w : World) (d : ByteArray) (v e : Int) : Hs (w.alloc (.cells #[.string d, .int .i64 v, .int .i64 e] 27)) w.heap.size ⟨d, v, e⟩ := ⟨Has.new w d v e, by simp⟩
theorem Hs.below {w w' : World} {b : Nat} {p : Pg} (h : Hs w b p) (hb : Below w.heap.size w w') : Hs w' b p :=
  ⟨h.toHas.below hb, fun i => (hb.frozen (p := ⟨b, i, none⟩) h.lt).trans (h.fz i)⟩
theorem Hs.alloc {w : World} {b : Nat} {p : Pg} (h : Hs w b p) (o : Obj) : Hs (w.alloc o) b p := h.below ((Below.refl _ _).alloc (Nat.le_refl _) o)
theorem Hs.tock {w w' : World} {b t : Nat} {p : Pg} (h : Hs w b p) (hb : b ≠ t) (ht : Tock t w w') : Hs w' b p :=
  ⟨h.toHas.tock hb ht, fun i => (ht.frozen hb h.lt).trans (h.fz i)⟩
/-- the page q stored into block b -/
def put3 (w : World) (b : Nat) (d : ByteArray) (v e : Int) : World := ((w.setCell ⟨b, 0, none⟩ (.string d)).setCell ⟨b, 1, none⟩ (.int .i64 v)).setCell ⟨b, 2, none⟩ (.int .i64 e)
theorem put3_cell {w : World} {b : Nat} {d : ByteArray} {v e : Int} {c i : Nat} (h : c ≠ b) : (put3 w b d v e).cell? ⟨c, i, none⟩ = w.cell? ⟨c, i, none⟩ := by
  unfold put3
  rw [World.cell?_setCell_other _ _ _ _ (by intro h'; exact h (by cases h'; rfl)), World.cell?_setCell_other _ _ _ _ (by intro h'; exact h (by cases h'; rfl)), World.cell?_setCell_other _ _ _ _ (by intro h'; exact h (by cases h'; rfl))]
theorem put3_frozen {w : World} {b : Nat} {d : ByteArray} {v e : Int} {c i : Nat} : (put3 w b d v e).frozen? ⟨c, i, none⟩ = w.frozen? ⟨c, i, none⟩ := by
  unfold put3
  rw [World.frozen?_setCell, World.frozen?_setCell, World.frozen?_setCell]
theorem put3_size {w : World} {b : Nat} {d : ByteArray} {v e : Int} : (put3 w b d v e).heap.size = w.heap.size := by simp [put3, World.setCell]
theorem put3_below {w : World} {b B : Nat} {d : ByteArray} {v e : Int} (h : B ≤ b) : Below B w (put3 w b d v e) :=
  (((Below.refl _ _).setCell (p := ⟨b, 0, none⟩) h _).setCell (p := ⟨b, 1, none⟩) h _).setCell (p := ⟨b, 2, none⟩) h _
theorem Hs.put {w : World} {b : Nat} {p : Pg} (h : Hs w b p) (d : ByteArray) (v e : Int) : Hs (put3 w b d v e) b ⟨d, v, e⟩ := by
  have n01 : (⟨b, 0, none⟩ : Addr) ≠ ⟨b, 1, none⟩ := by intro h; cases h
  have n02 : (⟨b, 0, none⟩ : Addr) ≠ ⟨b, 2, none⟩ := by intro h; cases h
  have n12 : (⟨b, 1, none⟩ : Addr) ≠ ⟨b, 2, none⟩ := by intro h; cases h
  refine ⟨⟨by rw [put3_size]; exact h.lt, ?_, ?_, ?_⟩, fun i => by rw [put3_frozen]; exact h.fz i⟩
  · unfold put3
    rw [World.cell?_setCell_other _ _ _ _ n02.symm, World.cell?_setCell_other _ _ _ _ n01.symm, World.cell?_setCell_same _ _ _ h.c0]
  · unfold put3
    rw [World.cell?_setCell_other _ _ _ _ n12.symm, World.cell?_setCell_same _ _ _ (u := .int .i64 p.v)]
    rw [World.cell?_setCell_other _ _ _ _ n01]; exact h.c1
  · unfold put3
    rw [World.cell?_setCell_same _ _ _ (u := .int .i64 p.e)]
    rw [World.cell?_setCell_other _ _ _ _ n12, World.cell?_setCell_other _ _ _ _ n02]; exact h.c2
theorem Hs.other {w : World} {b c : Nat} {q : Pg} (h : Hs w c q) (hn : c ≠ b) (d : ByteArray) (v e : Int) : Hs (put3 w b d v e) c q :=
  ⟨⟨by rw [put3_size]; exact h.lt, by rw [put3_cell hn]; exact h.c0, by rw [put3_cell hn]; exact h.c1, by rw [put3_cell hn]; exact h.c2⟩, fun i => by rw [put3_frozen]; exact h.fz i⟩
theorem Tock.put {t : Nat} {w w' : World} (h : Tock t w w') {b : Nat} (hb : w.heap.size ≤ b) (d : ByteArray) (v e : Int) : Tock t w (put3 w' b d v e) :=
  ⟨h.os, h.tape, h.output, by rw [put3_size]; exact h.size, fun k hk hl => ((put3_below (d := d) (v := v) (e := e) (Nat.le_refl b)).block k (by omega)).trans (h.block k hk hl)⟩
theorem TP.put3 {w0 w : World} {t b : Nat} {a : Option Addr} {len cap : Nat} (h : TP w0 t a len cap w) (hn : b ≠ t) (hb : w0.heap.size ≤ b) (d : ByteArray) (v e : Int) : TP w0 t a len cap (put3 w b d v e) := by
  obtain ⟨k, h⟩ := h
  exact ⟨k, h.row, h.lo, by rw [put3_size]; exact h.hi, h.bel.trans (put3_below hb), by rw [put3_cell (Ne.symm hn)]; exact h.c0, by rw [put3_cell (Ne.symm hn)]; exact h.c1, by rw [put3_frozen]; exact h.fz, h.kl, h.lm⟩
end Go.Proofs.Ythimcidkmnobnaa
