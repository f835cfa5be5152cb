/- The history that a law holds in a variable. -/
import Derived.Test.YtebdnnfaghhpkaaHt
import Derived.Test.YtebdnnfaghhpkaaWca
import Derived.Test.YtebdnnfaghhpkaaAwk
namespace Go.Proofs.Ytebdnnfaghhpkaa
open Go.ChangeShapes Go.WideShapes Go.ChangeAt Go.RowKit

/-- block H holds a history of the states l -/
structure WIv (w0 : World) (t : Nat) (a : Option Addr) (len cap H : Nat) (b : Option Addr) (c : Nat) (l : List ByteArray) (q : Int) (W : World) : Prop where
  tp : TP w0 t a len cap W
  tk : Tock t w0 W
  lo : t < H
  hi : H < W.heap.size
  c0 : W.cell? ⟨H, 0, none⟩ = some (.slice b l.length c)
  c1 : W.cell? ⟨H, 1, none⟩ = some (.int .i64 q)
  f0 : W.frozen? ⟨H, 0, none⟩ = false
  f1 : W.frozen? ⟨H, 1, none⟩ = false
  row : StrRow (t + 1) b c l W
  ne : ∀ g, b = some ⟨g, 0, none⟩ → g ≠ H
theorem WIv.tock {w0 : World} {t : Nat} {a : Option Addr} {len cap H : Nat} {b : Option Addr} {c : Nat} {l : List ByteArray} {q : Int} {W W' : World} (h : WIv w0 t a len cap H b c l q W) (hk : Tock t W W') (tp : TP w0 t a len cap W') : WIv w0 t a len cap H b c l q W' := by
  have h1 := h.lo
  have h2 := h.hi
  exact { tp := tp, tk := h.tk.trans hk, lo := h1, hi := Nat.lt_of_lt_of_le h2 hk.size,
          c0 := by rw [hk.cell (by omega) (by omega)]; exact h.c0
          c1 := by rw [hk.cell (by omega) (by omega)]; exact h.c1
          f0 := by rw [hk.frozen (by omega) (by omega)]; exact h.f0
          f1 := by rw [hk.frozen (by omega) (by omega)]; exact h.f1
          row := h.row.tock (Nat.lt_succ_self t) hk, ne := h.ne }
theorem WIv.below {w0 : World} {t : Nat} {a : Option Addr} {len cap H : Nat} {b : Option Addr} {c : Nat} {l : List ByteArray} {q : Int} {W W' : World} (h : WIv w0 t a len cap H b c l q W) (hb : Below W.heap.size W W') : WIv w0 t a len cap H b c l q W' :=
  h.tock (Tock.ofBelow hb (Nat.le_refl _)) (h.tp.below hb h.tp.hi)
theorem WIv.start {w0 W : World} {t : Nat} {a : Option Addr} {len cap : Nat} {b : Option Addr} {c : Nat} {l : List ByteArray} {q : Int} (tp : TP w0 t a len cap W) (tk : Tock t w0 W) (row : StrRow (t + 1) b c l W) :
    WIv w0 t a len cap W.heap.size b c l q (W.alloc (.cells #[.slice b l.length c, .int .i64 q] 40)) where
  tp := tp.below ((Below.refl _ _).alloc (Nat.le_refl _) _) tp.hi
  tk := tk.trans (Tock.ofBelow ((Below.refl _ _).alloc (Nat.le_refl _) _) (Nat.le_refl _))
  lo := tp.hi
  hi := by simp
  c0 := by simp
  c1 := by simp
  f0 := by simp
  f1 := by simp
  row := row.below ((Below.refl _ _).alloc (Nat.le_refl _) _)
  ne := row.ne_hi (Nat.le_refl _)
theorem WIv.setq {w0 W : World} {t : Nat} {a : Option Addr} {len cap H : Nat} {b : Option Addr} {c : Nat} {l : List ByteArray} {q : Int} (h : WIv w0 t a len cap H b c l q W) (q' : Int) : WIv w0 t a len cap H b c l q' (W.setCell ⟨H, 1, none⟩ (.int .i64 q')) := by
  have h1 := h.lo
  have h2 := h.tp.lo
  have hb : Below (t + 1) W (W.setCell ⟨H, 1, none⟩ (.int .i64 q')) := (Below.refl _ W).setCell (by show _ ≤ H; omega) _
  have hb0 : Below w0.heap.size W (W.setCell ⟨H, 1, none⟩ (.int .i64 q')) := (Below.refl _ W).setCell (by show _ ≤ H; omega) _
  exact { tp := h.tp.below hb (Nat.lt_succ_self t)
          tk := ⟨h.tk.os, h.tk.tape, h.tk.output, by simpa [World.setCell] using h.tk.size, fun i hi hl => (hb0.block i hl).trans (h.tk.block i hi hl)⟩
          lo := h1, hi := by simpa [World.setCell] using h.hi
          c0 := by rw [World.cell?_setCell_other _ _ _ _ (by simp)]; exact h.c0
          c1 := World.cell?_setCell_same _ _ _ h.c1
          f0 := by rw [World.frozen?_setCell]; exact h.f0
          f1 := by rw [World.frozen?_setCell]; exact h.f1
          row := StrRow.put1 h.row h.ne 1, ne := h.ne }
theorem WIv.setnil {w0 W : World} {t : Nat} {a : Option Addr} {len cap H : Nat} {b : Option Addr} {c : Nat} {l : List ByteArray} {q : Int} (h : WIv w0 t a len cap H b c l q W) : WIv w0 t a len cap H none 0 [] q (W.setCell ⟨H, 0, none⟩ (.slice none 0 0)) := by
  have h1 := h.lo
  have h2 := h.tp.lo
  have hb : Below (t + 1) W (W.setCell ⟨H, 0, none⟩ (.slice none 0 0)) := (Below.refl _ W).setCell (by show _ ≤ H; omega) _
  have hb0 : Below w0.heap.size W (W.setCell ⟨H, 0, none⟩ (.slice none 0 0)) := (Below.refl _ W).setCell (by show _ ≤ H; omega) _
  exact { tp := h.tp.below hb (Nat.lt_succ_self t)
          tk := ⟨h.tk.os, h.tk.tape, h.tk.output, by simpa [World.setCell] using h.tk.size, fun i hi hl => (hb0.block i hl).trans (h.tk.block i hi hl)⟩
          lo := h1, hi := by simpa [World.setCell] using h.hi
          c0 := World.cell?_setCell_same _ _ _ h.c0
          c1 := by rw [World.cell?_setCell_other _ _ _ _ (by simp)]; exact h.c1
          f0 := by rw [World.frozen?_setCell]; exact h.f0
          f1 := by rw [World.frozen?_setCell]; exact h.f1
          row := Or.inl ⟨rfl, rfl, rfl⟩, ne := by intro g hg; cases hg }
theorem WIv.some {w0 W : World} {t : Nat} {a : Option Addr} {len cap H : Nat} {b : Option Addr} {c : Nat} {l : List ByteArray} {q : Int} (h : WIv w0 t a len cap H b c l q W) (hl : 0 < l.length) : ∃ g, b = some ⟨g, 0, none⟩ := by
  rcases h.row with ⟨_, h2, _⟩ | ⟨g, hg, _⟩
  · rw [h2] at hl; exact absurd hl (Nat.lt_irrefl _)
  · exact ⟨g, hg⟩
theorem WIv.capl {w0 W : World} {t : Nat} {a : Option Addr} {len cap H : Nat} {b : Option Addr} {c : Nat} {l : List ByteArray} {q : Int} (h : WIv w0 t a len cap H b c l q W) (hl : 0 < l.length) : l.length ≤ c := by
  rcases h.row with ⟨_, h2, _⟩ | ⟨g, hg, _, _, h5, _⟩
  · rw [h2] at hl; exact absurd hl (Nat.lt_irrefl _)
  · exact h5
theorem WIv.at {w0 W : World} {t : Nat} {a : Option Addr} {len cap H g : Nat} {c : Nat} {l : List ByteArray} {q : Int} (h : WIv w0 t a len cap H (.some ⟨g, 0, none⟩) c l q W) (j : Nat) (hj : j < l.length) : W.cell? ⟨g, j, none⟩ = .some (.string (l.getD j ByteArray.empty)) := by
  rcases h.row with ⟨h1, _⟩ | ⟨g2, hg, _, _, _, _, h7⟩
  · cases h1
  · cases hg; exact h7 j hj
theorem getD_mem {l : List ByteArray} {j : Nat} (hj : j < l.length) : l.getD j ByteArray.empty ∈ l := by simp [List.getD, hj]
/-- a second history is laid into block H2 -/
theorem WIv.two {w0 W : World} {t : Nat} {a : Option Addr} {len cap H : Nat} {b : Option Addr} {c : Nat} {l : List ByteArray} {q : Int} (h : WIv w0 t a len cap H b c l q W) {H2 c2 : Nat} {b2 : Option Addr} {l2 : List ByteArray} {u0 u1 : Value} (q2 : Int)
    (lo : t < H2) (hi : H2 < W.heap.size) (hne : H2 ≠ H) (hneb : ∀ g, b = .some ⟨g, 0, none⟩ → g ≠ H2) (c0 : W.cell? ⟨H2, 0, none⟩ = .some u0) (c1 : W.cell? ⟨H2, 1, none⟩ = .some u1) (f0 : W.frozen? ⟨H2, 0, none⟩ = false) (f1 : W.frozen? ⟨H2, 1, none⟩ = false)
    (hr : StrRow (t + 1) b2 c2 l2 W) (hn2 : ∀ g, b2 = .some ⟨g, 0, none⟩ → g ≠ H2) :
    WIv w0 t a len cap H b c l q ((W.setCell ⟨H2, 0, none⟩ (.slice b2 l2.length c2)).setCell ⟨H2, 1, none⟩ (.int .i64 q2)) ∧ WIv w0 t a len cap H2 b2 c2 l2 q2 ((W.setCell ⟨H2, 0, none⟩ (.slice b2 l2.length c2)).setCell ⟨H2, 1, none⟩ (.int .i64 q2)) := by
  have hb : Below (t + 1) W ((W.setCell ⟨H2, 0, none⟩ (.slice b2 l2.length c2)).setCell ⟨H2, 1, none⟩ (.int .i64 q2)) := ((Below.refl _ W).setCell (by show _ ≤ H2; omega) _).setCell (by show _ ≤ H2; omega) _
  have htl := h.tp.lo
  have hb0 : Below w0.heap.size W ((W.setCell ⟨H2, 0, none⟩ (.slice b2 l2.length c2)).setCell ⟨H2, 1, none⟩ (.int .i64 q2)) := hb.mono (by omega)
  have tk : Tock t w0 ((W.setCell ⟨H2, 0, none⟩ (.slice b2 l2.length c2)).setCell ⟨H2, 1, none⟩ (.int .i64 q2)) := ⟨h.tk.os, h.tk.tape, h.tk.output, by simpa [World.setCell] using h.tk.size, fun i hi hl => (hb0.block i hl).trans (h.tk.block i hi hl)⟩
  have tp := h.tp.below hb (Nat.lt_succ_self t)
  have c1' : (W.setCell ⟨H2, 0, none⟩ (.slice b2 l2.length c2)).cell? ⟨H2, 1, none⟩ = .some u1 := by
    rw [World.cell?_setCell_other _ _ _ _ (by simp), c1]
  have ho : ∀ o, ((W.setCell ⟨H2, 0, none⟩ (.slice b2 l2.length c2)).setCell ⟨H2, 1, none⟩ (.int .i64 q2)).cell? ⟨H, o, none⟩ = W.cell? ⟨H, o, none⟩ := by
    intro o
    rw [World.cell?_setCell_other _ _ _ _ (by intro e; cases e; exact hne rfl), World.cell?_setCell_other _ _ _ _ (by intro e; cases e; exact hne rfl)]
  refine ⟨⟨tp, tk, h.lo, by simpa [World.setCell] using h.hi, by rw [ho]; exact h.c0, by rw [ho]; exact h.c1, by rw [World.frozen?_setCell, World.frozen?_setCell]; exact h.f0, by rw [World.frozen?_setCell, World.frozen?_setCell]; exact h.f1, StrRow.put2 h.row hneb 0 1, h.ne⟩,
    ⟨tp, tk, lo, by simpa [World.setCell] using hi, ?_, World.cell?_setCell_same _ _ _ c1', by rw [World.frozen?_setCell, World.frozen?_setCell]; exact f0, by rw [World.frozen?_setCell, World.frozen?_setCell]; exact f1, StrRow.put2 hr hn2 0 1, hn2⟩⟩
  rw [World.cell?_setCell_other _ _ _ _ (by simp)]
  exact World.cell?_setCell_same _ _ _ c0
theorem WIv.new {w0 W : World} {t : Nat} {a : Option Addr} {len cap H : Nat} {b : Option Addr} {c : Nat} {l : List ByteArray} {q : Int} (h : WIv w0 t a len cap H b c l q W) {c2 : Nat} {b2 : Option Addr} {l2 : List ByteArray} (q2 : Int) (hr : StrRow (t + 1) b2 c2 l2 W) :
    WIv w0 t a len cap H b c l q (W.alloc (.cells #[.slice b2 l2.length c2, .int .i64 q2] 40)) ∧ WIv w0 t a len cap W.heap.size b2 c2 l2 q2 (W.alloc (.cells #[.slice b2 l2.length c2, .int .i64 q2] 40)) :=
  ⟨h.below ((Below.refl _ _).alloc (Nat.le_refl _) _), WIv.start h.tp h.tk hr⟩
end Go.Proofs.Ytebdnnfaghhpkaa
