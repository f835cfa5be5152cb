/- Filling a page: what holds between the steps. -/
import Derived.Test.YthimcidkmnobnaaWrr
import Derived.Test.YthimcidkmnobnaaBytes
import Derived.Lib.LazyBuf
namespace Go.Proofs.Ythimcidkmnobnaa
open Go.ChangeShapes Go.WideShapes Go.ChangeAt Go.RowKit

theorem size_eq_list (d : ByteArray) : d.data.toList.length = d.size := Array.length_toList
/-- byte i of a string -/
def bat (d : ByteArray) (i : Nat) : UInt8 := d.data.toList.getD i 0
/-- sixteen bytes -/
def mk16 (f : Nat → UInt8) : ByteArray := ⟨((List.range 16).map f).toArray⟩
theorem mk16_size (f : Nat → UInt8) : (mk16 f).size = 16 := by rw [← size_eq_list]; simp [mk16]
theorem bat_mk16 (f : Nat → UInt8) {i : Nat} (h : i < 16) : bat (mk16 f) i = f i := by
  simp [bat, mk16, List.getD, h]
theorem bat_get (d : ByteArray) (i : Nat) (h : i < d.size) : d[i] = bat d i := by
  have h' : i < d.data.toList.length := by rw [size_eq_list]; exact h
  simp [bat, List.getD, List.getElem?_eq_getElem h', ByteArray.getElem_eq_getElem_data]
theorem mk16_ext {f g : Nat → UInt8} (h : ∀ i, i < 16 → f i = g i) : mk16 f = mk16 g := by
  unfold mk16
  congr 2
  exact List.map_congr_left fun i hi => h i (by simpa using hi)
theorem mk16_bat {d : ByteArray} (h : d.size = 16) : mk16 (bat d) = d := by
  have hl : d.data.toList.length = 16 := by rw [size_eq_list]; exact h
  have : (List.range 16).map (bat d) = d.data.toList := by
    apply List.ext_getElem
    · simp [hl]
    · intro i h1 h2
      simp [bat, List.getD, List.getElem?_eq_getElem h2]
  unfold mk16
  rw [this]

/-- copy(dst, s), s a string that is no shorter than dst -/
theorem run_copy_cut (w : World) (ty : TypeId) (b o dLen dCap : Nat) (t : ByteArray) (hle : dLen ≤ t.size)
    (hc : ∀ j, j < dLen → (w.cell? ⟨b, o + j, none⟩).isSome = true) (hf : ∀ j, j < dLen → w.frozen? ⟨b, o + j, none⟩ = false) :
    (Builtin.copy_ #[45, 9] ty #[.slice (some ⟨b, o, none⟩) dLen dCap, .string t]).run Try.prog w = .ok (goInt dLen) (w.setCells b o ((t.data.toList.map fun x => Value.int .u8 (x.toNat : Int)).take dLen)) := by
  have hmin : Nat.min t.size dLen = dLen := Nat.min_eq_right hle
  have hl : ((t.data.toList.map fun x => Value.int .u8 (x.toNat : Int)).take dLen).length = dLen := by rw [List.length_take, List.length_map, size_eq_list]; omega
  have hz : ∀ w, (Go.sizeOf 5).run Try.prog w = .ok 1 w := fun _ => by kernel_rfl
  have hst := run_storeCells_cells (P := Try.prog) b o ((t.data.toList.map fun x => Value.int .u8 (x.toNat : Int)).take dLen) 0 w (by rw [hl]; simpa using hc) (by rw [hl]; simpa using hf) (by
    intro v hv
    obtain ⟨x, _, rfl⟩ := List.mem_map.1 (List.mem_of_mem_take hv)
    rfl)
  simp [Builtin.copy_, run_underlying Try.underlying45, Builtin.lenOf, Builtin.firstCells, hz, hmin]
  rw [hst]
  rfl

structure FInv (w : World) (g : Nat) (d : ByteArray) (v e : Int) (f : Nat → UInt8) (wr : World) : Prop where
  bel : Below w.heap.size w wr
  lo : w.heap.size + 2 ≤ g
  hi : g < wr.heap.size
  p0 : wr.cell? ⟨w.heap.size, 0, none⟩ = some (.string d)
  p1 : wr.cell? ⟨w.heap.size, 1, none⟩ = some (.int .i64 v)
  p2 : wr.cell? ⟨w.heap.size, 2, none⟩ = some (.int .i64 e)
  r0 : wr.cell? ⟨w.heap.size + 1, 0, none⟩ = some (.string ⟨#[]⟩)
  r1 : wr.cell? ⟨w.heap.size + 1, 1, none⟩ = some (.int .i64 0)
  r2 : wr.cell? ⟨w.heap.size + 1, 2, none⟩ = some (.int .i64 0)
  z0 : wr.frozen? ⟨w.heap.size + 1, 0, none⟩ = false
  z1 : wr.frozen? ⟨w.heap.size + 1, 1, none⟩ = false
  z2 : wr.frozen? ⟨w.heap.size + 1, 2, none⟩ = false
  row : ∀ j, j < 16 → wr.cell? ⟨g, j, none⟩ = some (.int .u8 ((f j).toNat : Int))
  rz : ∀ j, j < 16 → wr.frozen? ⟨g, j, none⟩ = false
section
variable {w wr : World} {g : Nat} {d : ByteArray} {v e : Int} {f : Nat → UInt8}
theorem FInv.drewN (h : FInv w g d v e f wr) (q : Nat) : FInv w g d v e f (wr.drewN q) :=
  ⟨below_drewN h.bel q, h.lo, h.hi, h.p0, h.p1, h.p2, h.r0, h.r1, h.r2, h.z0, h.z1, h.z2, h.row, h.rz⟩
theorem FInv.drew (h : FInv w g d v e f wr) : FInv w g d v e f wr.drew :=
  ⟨h.bel.drew, h.lo, h.hi, h.p0, h.p1, h.p2, h.r0, h.r1, h.r2, h.z0, h.z1, h.z2, h.row, h.rz⟩
theorem FInv.congr (h : FInv w g d v e f wr) {f' : Nat → UInt8} (hf : ∀ j, j < 16 → f j = f' j) : FInv w g d v e f' wr :=
  ⟨h.bel, h.lo, h.hi, h.p0, h.p1, h.p2, h.r0, h.r1, h.r2, h.z0, h.z1, h.z2, fun j hj => by rw [← hf j hj]; exact h.row j hj, h.rz⟩
theorem FInv.copy (h : FInv w g d v e f wr) (o : Nat) (ho : o + 8 ≤ 16) (vs : List Value) (hl : vs.length = 8) (f' : Nat → UInt8)
    (hin : ∀ j (hj : j < vs.length), vs[j] = .int .u8 ((f' (o + j)).toNat : Int)) (hout : ∀ j, j < 16 → (j < o ∨ o + 8 ≤ j) → f' j = f j) : FInv w g d v e f' (wr.setCells g o vs) := by
  have lo := h.lo
  have ot : ∀ b i, b ≠ g → (wr.setCells g o vs).cell? ⟨b, i, none⟩ = wr.cell? ⟨b, i, none⟩ := fun b i hb => World.cell?_setCells_out g vs o wr ⟨b, i, none⟩ (fun h1 _ => absurd h1 hb)
  have fz : ∀ b i, (wr.setCells g o vs).frozen? ⟨b, i, none⟩ = wr.frozen? ⟨b, i, none⟩ := fun b i => World.frozen?_setCells g vs o wr ⟨b, i, none⟩
  have hsz : ∀ (l : List Value) (o : Nat) (w : World), (w.setCells g o l).heap.size = w.heap.size := by
    intro l
    induction l with
    | nil => intro o w; rfl
    | cons x r ih => intro o w; rw [World.setCells, ih]; simp [World.setCell]
  refine ⟨below_setCells (by omega) _ _ _ h.bel, lo, by rw [hsz]; exact h.hi, ?_, ?_, ?_, ?_, ?_, ?_, ?_, ?_, ?_, ?_, ?_⟩
  · rw [ot _ _ (by omega)]; exact h.p0
  · rw [ot _ _ (by omega)]; exact h.p1
  · rw [ot _ _ (by omega)]; exact h.p2
  · rw [ot _ _ (by omega)]; exact h.r0
  · rw [ot _ _ (by omega)]; exact h.r1
  · rw [ot _ _ (by omega)]; exact h.r2
  · rw [fz]; exact h.z0
  · rw [fz]; exact h.z1
  · rw [fz]; exact h.z2
  · intro j hj
    by_cases hc : j < o ∨ o + 8 ≤ j
    · rw [World.cell?_setCells_out g vs o wr ⟨g, j, none⟩ (fun _ _ => by simp only; omega), h.row j hj, hout j hj hc]
    · have e1 : j = o + (j - o) := by omega
      have := World.cell?_setCells_in g vs o wr (fun i hi => by rw [h.row (o + i) (by omega)]; rfl) (j - o) (by omega)
      rw [← e1] at this
      rw [this, hin _ (by omega), ← e1]
  · intro j hj
    rw [fz]; exact h.rz j hj
theorem FInv.set (h : FInv w g d v e f wr) (i : Nat) (hi : i < 16) (x : UInt8) : FInv w g d v e (fun j => if j = i then x else f j) (wr.setCell ⟨g, i, none⟩ (.int .u8 (x.toNat : Int))) := by
  have lo := h.lo
  have ot : ∀ b j, b ≠ g → (wr.setCell ⟨g, i, none⟩ (.int .u8 (x.toNat : Int))).cell? ⟨b, j, none⟩ = wr.cell? ⟨b, j, none⟩ := fun b j hb => World.cell?_setCell_other _ _ _ _ (by intro h; exact hb (by cases h; rfl))
  refine ⟨h.bel.setCell (p := ⟨g, i, none⟩) (by show w.heap.size ≤ g; omega) _, lo, by simpa [World.setCell] using h.hi, ?_, ?_, ?_, ?_, ?_, ?_, ?_, ?_, ?_, ?_, ?_⟩
  · rw [ot _ _ (by omega)]; exact h.p0
  · rw [ot _ _ (by omega)]; exact h.p1
  · rw [ot _ _ (by omega)]; exact h.p2
  · rw [ot _ _ (by omega)]; exact h.r0
  · rw [ot _ _ (by omega)]; exact h.r1
  · rw [ot _ _ (by omega)]; exact h.r2
  · rw [World.frozen?_setCell]; exact h.z0
  · rw [World.frozen?_setCell]; exact h.z1
  · rw [World.frozen?_setCell]; exact h.z2
  · intro j hj
    by_cases hc : j = i
    · subst hc
      rw [World.cell?_setCell_same _ _ _ (h.row j hj), if_pos rfl]
    · rw [World.cell?_setCell_other _ _ _ _ (by intro h; exact hc (by cases h; rfl)), h.row j hj, if_neg hc]
  · intro j hj
    rw [World.frozen?_setCell]; exact h.rz j hj
theorem FInv.conv (h : FInv w g d v e f wr) (cap : Nat) : (convert 45 9 (.slice (some ⟨g, 0, none⟩) 16 cap)).run Try.prog wr = .ok (.string (mk16 f)) wr := by
  refine conv_bytes wr g 16 cap ((List.range 16).map f) (by simp) ?_
  intro j hj
  have hj' : j < 16 := by simpa using hj
  rw [h.row j hj']
  simp
end
/-- the row that []byte(s) makes -/
theorem FInv.start {w w1 : World} {d : ByteArray} {v e : Int} (hd : d.size = 16) (C : Nat) (hC : 16 ≤ C) (lo hi : Nat) (hm : 16 ≤ lo)
    (hb : Below (w.heap.size + 2) ((w.alloc (.cells #[.string d, .int .i64 v, .int .i64 e] 27)).alloc (.cells #[.string ⟨#[]⟩, .int .i64 0, .int .i64 0] 27)) w1) :
    FInv w w1.heap.size d v e (bat d) (w1.alloc (.cells (bytesRow d C) 5 (lo, hi))) := by
  have hs := hb.size
  simp at hs
  have k : ∀ b i, b < w.heap.size + 2 → (w1.alloc (.cells (bytesRow d C) 5 (lo, hi))).cell? ⟨b, i, none⟩ = ((w.alloc (.cells #[.string d, .int .i64 v, .int .i64 e] 27)).alloc (.cells #[.string ⟨#[]⟩, .int .i64 0, .int .i64 0] 27)).cell? ⟨b, i, none⟩ := fun b i hlt => by
    rw [World.cell?_alloc_lt _ _ _ (by simp only; omega)]
    exact hb.cell (p := ⟨b, i, none⟩) hlt
  have kf : ∀ b i, b < w.heap.size + 2 → (w1.alloc (.cells (bytesRow d C) 5 (lo, hi))).frozen? ⟨b, i, none⟩ = ((w.alloc (.cells #[.string d, .int .i64 v, .int .i64 e] 27)).alloc (.cells #[.string ⟨#[]⟩, .int .i64 0, .int .i64 0] 27)).frozen? ⟨b, i, none⟩ := fun b i hlt => by
    rw [(((Below.refl w1.heap.size w1).alloc (Nat.le_refl _) _).frozen (p := ⟨b, i, none⟩) (by simp only; omega))]
    exact hb.frozen (p := ⟨b, i, none⟩) hlt
  refine ⟨((((Below.refl _ _).alloc (Nat.le_refl _) _).alloc (by simp) _).trans (hb.mono (by omega))).alloc (by omega) _, hs, by simp, ?_, ?_, ?_, ?_, ?_, ?_, ?_, ?_, ?_, ?_, ?_⟩
  · rw [k _ _ (by omega)]; simp
  · rw [k _ _ (by omega)]; simp
  · rw [k _ _ (by omega)]; simp
  · rw [k _ _ (by omega)]; simp
  · rw [k _ _ (by omega)]; simp
  · rw [k _ _ (by omega)]; simp
  · rw [kf _ _ (by omega)]; simp
  · rw [kf _ _ (by omega)]; simp
  · rw [kf _ _ (by omega)]; simp
  · intro j hj
    rw [World.cell?_alloc_mark]
    have h2 : j < d.data.size := by show j < d.size; omega
    have h3 : d.data[j]? = some d.data[j] := Array.getElem?_eq_getElem h2
    simp [bytesRow, Array.getElem?_append, h3, bat, List.getD, hd, hj]
  · intro j hj
    rw [World.frozen?_alloc_mark]
    simp
    omega
end Go.Proofs.Ythimcidkmnobnaa
