/- A row of sixteen bytes. -/
import Derived.Test.YthimcidkmnobnaaAtt
namespace Go.Proofs.Ythimcidkmnobnaa
open Go.ChangeShapes Go.WideShapes Go.ChangeAt Go.RowKit

/-- block b holds the sixteen bytes f, and may be written -/
structure Rw (w : World) (b : Nat) (f : Nat → UInt8) : Prop where
  lt : b < w.heap.size
  cell : ∀ j, j < 16 → w.cell? ⟨b, j, none⟩ = some (.int .u8 ((f j).toNat : Int))
  fz : ∀ j, j < 16 → w.frozen? ⟨b, j, none⟩ = false
theorem Rw.below {w w' : World} {b : Nat} {f : Nat → UInt8} (h : Rw w b f) (hb : Below w.heap.size w w') : Rw w' b f :=
  ⟨Nat.lt_of_lt_of_le h.lt hb.size, fun j hj => (hb.cell (p := ⟨b, j, none⟩) h.lt).trans (h.cell j hj), fun j hj => (hb.frozen (p := ⟨b, j, none⟩) h.lt).trans (h.fz j hj)⟩
theorem Rw.alloc {w : World} {b : Nat} {f : Nat → UInt8} (h : Rw w b f) (o : Obj) : Rw (w.alloc o) b f := h.below ((Below.refl _ _).alloc (Nat.le_refl _) o)
theorem Rw.drew {w : World} {b : Nat} {f : Nat → UInt8} (h : Rw w b f) : Rw w.drew b f := h.below (Below.drew (Below.refl w.heap.size w))
theorem Rw.tock {w w' : World} {b t : Nat} {f : Nat → UInt8} (h : Rw w b f) (hb : b ≠ t) (ht : Tock t w w') : Rw w' b f :=
  ⟨Nat.lt_of_lt_of_le h.lt ht.size, fun j hj => (ht.cell hb h.lt).trans (h.cell j hj), fun j hj => (ht.frozen hb h.lt).trans (h.fz j hj)⟩
theorem Rw.other {w : World} {b c : Nat} {f : Nat → UInt8} (h : Rw w c f) (hn : c ≠ b) (d : ByteArray) (v e : Int) : Rw (put3 w b d v e) c f :=
  ⟨by rw [put3_size]; exact h.lt, fun j hj => by rw [put3_cell hn]; exact h.cell j hj, fun j hj => by rw [put3_frozen]; exact h.fz j hj⟩
theorem Rw.conv {w : World} {b : Nat} {f : Nat → UInt8} (h : Rw w b f) (cap : Nat) : (convert 45 9 (.slice (some ⟨b, 0, none⟩) 16 cap)).run Try.prog w = .ok (.string (mk16 f)) w := by
  refine conv_bytes w b 16 cap ((List.range 16).map f) (by simp) ?_
  intro j hj
  have hj' : j < 16 := by simpa using hj
  rw [h.cell j hj']
  simp
theorem setCells_size (b : Nat) : ∀ (l : List Value) (o : Nat) (w : World), (w.setCells b o l).heap.size = w.heap.size
  | [], _, _ => rfl
  | v :: r, o, w => by rw [World.setCells, setCells_size b r]; simp [World.setCell]
/-- s copied to place o on -/
theorem Rw.copy {w : World} {b : Nat} {f : Nat → UInt8} (h : Rw w b f) (o : Nat) (s : ByteArray) (hs : o + s.size ≤ 16) :
    Rw (w.setCells b o (s.data.toList.map fun x => Value.int .u8 (x.toNat : Int))) b (putF f o s) := by
  have hl : (s.data.toList.map fun x => Value.int .u8 (x.toNat : Int)).length = s.size := by rw [List.length_map, size_eq_list]
  refine ⟨by rw [setCells_size]; exact h.lt, fun j hj => ?_, fun j hj => by rw [World.frozen?_setCells]; exact h.fz j hj⟩
  by_cases hin : o ≤ j ∧ j < o + s.size
  · have e1 : j = o + (j - o) := by omega
    have := World.cell?_setCells_in b (s.data.toList.map fun x => Value.int .u8 (x.toNat : Int)) o w (fun i hi => by rw [h.cell (o + i) (by omega)]; rfl) (j - o) (by omega)
    rw [← e1] at this
    rw [this]
    unfold putF
    rw [if_pos (by omega)]
    have hj2 : j - o < s.data.toList.length := by rw [size_eq_list]; omega
    have e2 : (o : Int).toNat = o := by omega
    simp [bat, List.getD, e2, List.getElem?_eq_getElem hj2]
  · rw [World.cell?_setCells_out b _ o w ⟨b, j, none⟩ (fun _ _ => by simp only [hl]; omega), h.cell j hj]
    unfold putF
    rw [if_neg (by omega)]
theorem setCells_other {w : World} {b c : Nat} {p : Pg} {l : List Value} {o : Nat} (h : Hs w c p) (hn : c ≠ b) : Hs (w.setCells b o l) c p :=
  ⟨⟨by rw [setCells_size]; exact h.lt, by rw [World.cell?_setCells_out b l o w ⟨c, 0, none⟩ (fun h1 _ => absurd h1 hn)]; exact h.c0, by rw [World.cell?_setCells_out b l o w ⟨c, 1, none⟩ (fun h1 _ => absurd h1 hn)]; exact h.c1,
    by rw [World.cell?_setCells_out b l o w ⟨c, 2, none⟩ (fun h1 _ => absurd h1 hn)]; exact h.c2⟩, fun i => by rw [World.frozen?_setCells]; exact h.fz i⟩
theorem TP.setCells {w0 w : World} {t b : Nat} {a : Option Addr} {len cap : Nat} (h : TP w0 t a len cap w) (hn : b ≠ t) (hb : w0.heap.size ≤ b) (o : Nat) (l : List Value) : TP w0 t a len cap (w.setCells b o l) := by
  obtain ⟨k, h⟩ := h
  have e : ∀ i, (w.setCells b o l).cell? ⟨t, i, none⟩ = w.cell? ⟨t, i, none⟩ := fun i => World.cell?_setCells_out b l o w ⟨t, i, none⟩ (fun h1 _ => absurd h1 (Ne.symm hn))
  exact ⟨k, h.row, h.lo, by rw [setCells_size]; exact h.hi, below_setCells hb l o _ h.bel, by rw [e]; exact h.c0, by rw [e]; exact h.c1, by rw [World.frozen?_setCells]; exact h.fz, h.kl, h.lm⟩
theorem Tock.setCells {t : Nat} {w w' : World} (h : Tock t w w') {b : Nat} (hb : w.heap.size ≤ b) (o : Nat) (l : List Value) : Tock t w (w'.setCells b o l) := by
  have hB := below_setCells (Nat.le_refl b) l o w' (Below.refl b w')
  exact ⟨hB.os.trans h.os, hB.tape.trans h.tape, hB.output.trans h.output, Nat.le_trans h.size hB.size, fun k hk hl => (hB.block k (by omega)).trans (h.block k hk hl)⟩
/-- the row that []byte(s) makes -/
theorem Rw.start {w : World} {d : ByteArray} (hd : d.size = 16) (C : Nat) (lo hi : Nat) (hm : 16 ≤ lo) : Rw (w.alloc (.cells (bytesRow d C) 5 (lo, hi))) w.heap.size (bat d) := by
  refine ⟨by simp, fun j hj => ?_, fun j hj => ?_⟩
  · rw [World.cell?_alloc_mark]
    have h2 : j < d.data.size := by show j < d.size; omega
    have h3 : d.data[j]? = some d.data[j] := Array.getElem?_eq_getElem h2
    simp [bytesRow, Array.getElem?_append, h3, bat, List.getD, hd, hj]
  · rw [World.frozen?_alloc_mark]
    simp
    omega
theorem put_genR {C : World → Prop} {w0 w' : World} {t B R g : Nat} {a : Option Addr} {len cap : Nat} {p : Pg} {f : Nat → UInt8} (nb : NewB t B w' g) (nr : NewB t R w' g) (hP : Hs w' B p) (hR : Rw w' R f) (ht : TP w0 t a len cap w') (hk : Tock t w0 w') (hg : w0.heap.size ≤ g) (d : ByteArray) (v e : Int)
    (h : ∀ W, Hs W g ⟨d, v, e⟩ → Hs W B p → Rw W R f → TP w0 t a len cap W → Hid (Tock t w0 W) → g ≠ B → B ≠ g → R ≠ g → C W) : C (((w'.setCell ⟨g, 0, none⟩ (.string d)).setCell ⟨g, 1, none⟩ (.int .i64 v)).setCell ⟨g, 2, none⟩ (.int .i64 e)) :=
  h (put3 w' g d v e) (nb.hs.put d v e) (hP.other nb.nB' d v e) (hR.other nr.nB' d v e) (ht.put3 nb.nt hg d v e) (hk.put hg d v e) nb.nB nb.nB' nr.nB'
theorem alloc_genR {C : World → Prop} {w0 w' : World} {t B R : Nat} {a : Option Addr} {len cap : Nat} {p : Pg} {f : Nat → UInt8} (hP : Hs w' B p) (hR : Rw w' R f) (ht : TP w0 t a len cap w') (hk : Tock t w0 w') (d : ByteArray) (v e : Int)
    (h : ∀ W, Hs W w'.heap.size ⟨d, v, e⟩ → Hs W B p → Rw W R f → TP w0 t a len cap W → Hid (Tock t w0 W) → w'.heap.size ≠ B → B ≠ w'.heap.size → R ≠ w'.heap.size → C W) : C (w'.alloc (.cells #[.string d, .int .i64 v, .int .i64 e] 27)) :=
  h _ (Hs.new w' d v e) (hP.alloc _) (hR.alloc _) (ht.alloc _) (hk.alloc _) (Nat.ne_of_gt hP.lt) (Nat.ne_of_lt hP.lt) (Nat.ne_of_lt hR.lt)
theorem copy_row (W : World) (b o C : Nat) (f : Nat → UInt8) (s : ByteArray) (h : Rw W b f) (ho : o ≤ 16) (hs : o + s.size ≤ 16) :
    (Builtin.copy_ #[45, 9] 3 #[.slice (some ⟨b, o, none⟩) (16 - o) C, .string s]).run Try.prog W = .ok (goInt s.size) (W.setCells b o (s.data.toList.map fun x => Value.int .u8 (x.toNat : Int))) :=
  run_copy_string (P := Try.prog) W 45 9 3 5 b o (16 - o) C s Try.underlying45 (fun _ => by kernel_rfl) (by omega) (fun j hj => by rw [h.cell (o + j) (by omega)]; rfl) (fun j hj => h.fz (o + j) (by omega))
end Go.Proofs.Ythimcidkmnobnaa
