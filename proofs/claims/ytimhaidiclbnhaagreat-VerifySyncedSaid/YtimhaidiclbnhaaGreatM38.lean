/- Layer 46, shared texts of this seat, part 38. -/
import Derived.Orders
import Derived.Tactics
import Derived.Test.YtimhaidiclbnhaaGreatM17
import Derived.Test.YtimhaidiclbnhaaGreatM28
import Derived.Test.YtimhaidiclbnhaaGreatM37
import Derived.Test.YtimhaidiclbnhaaGreatRows
/- Mapping an area as the document has it. -/
set_option linter.unusedSimpArgs false
set_option linter.unusedVariables false
set_option maxRecDepth 100000
namespace Go.Proofs.YtimhaidiclbnhaaGreat.Ara
open Go.ChangeShapes Go.WideShapes Go.ChangeAt Go.RowKit

end Go.Proofs.YtimhaidiclbnhaaGreat.Ara
/- Lists of areas, plainly: what is right, and what an area put in makes of them. -/
set_option linter.unusedSimpArgs false
set_option linter.unusedVariables false
set_option maxRecDepth 100000
namespace Go.Proofs.YtimhaidiclbnhaaGreat.Ara
open Go.ChangeShapes Go.WideShapes Go.ChangeAt Go.RowKit

theorem getD_get {l : List Ar} {i : Nat} (h : i < l.length) : l.getD i Ar.zero = l[i] := by simp [List.getD, h]
end Go.Proofs.YtimhaidiclbnhaaGreat.Ara
/- The pages that show a page of a file, plainly. -/
set_option linter.unusedSimpArgs false
set_option linter.unusedVariables false
set_option maxRecDepth 100000
namespace Go.Proofs.YtimhaidiclbnhaaGreat.Ara
open Go.ChangeShapes Go.WideShapes Go.ChangeAt Go.RowKit

end Go.Proofs.YtimhaidiclbnhaaGreat.Ara
/- Room, mapping and unmapping, plainly. -/
set_option linter.unusedSimpArgs false
set_option linter.unusedVariables false
set_option maxRecDepth 100000
namespace Go.Proofs.YtimhaidiclbnhaaGreat.Ara
open Go.ChangeShapes Go.WideShapes Go.ChangeAt Go.RowKit

theorem part_iff {x y : Ar} {u v : Int} : partV x u v = some y ↔ max u x.st < min v (x.st + x.cn) ∧ y = ⟨max u x.st, min v (x.st + x.cn) - max u x.st, x.fi, x.pg + (max u x.st - x.st), x.wr⟩ := by
  unfold partV
  split
  · rename_i h; constructor
    · intro h; cases h
    · intro h2; omega
  · rename_i h
    constructor
    · intro h2; cases h2; exact ⟨by omega, rfl⟩
    · rintro ⟨_, rfl⟩; rfl
theorem mem_out {l : List Ar} {s n : Int} {y : Ar} : y ∈ outTo l s n l.length ↔ ∃ x ∈ l, partV x 0 s = some y ∨ partV x (s + n) 64 = some y := by
  unfold outTo partsOf
  rw [List.take_length, List.mem_flatMap]
  simp only [List.mem_append, Option.mem_toList]
end Go.Proofs.YtimhaidiclbnhaaGreat.Ara
/- Bytes of contents: plain facts. -/
set_option linter.unusedSimpArgs false
set_option linter.unusedVariables false
set_option maxRecDepth 100000
namespace Go.Proofs.YtimhaidiclbnhaaGreat.Con
open Go.ChangeShapes Go.WideShapes Go.ChangeAt Go.RowKit

/-- byte i of a string, zero behind its end -/
def bat (d : ByteArray) (i : Nat) : UInt8 := d.data.toList.getD i 0
theorem size_list (d : ByteArray) : d.data.toList.length = d.size := Array.length_toList
theorem bat_out {d : ByteArray} {i : Nat} (h : d.size ≤ i) : bat d i = 0 := by
  unfold bat
  rw [List.getD, List.getElem?_eq_none (by rw [size_list]; exact h)]; rfl
theorem bat_ext {a b : ByteArray} (hs : a.size = b.size) (h : ∀ i, i < a.size → bat a i = bat b i) : a = b := by
  have hl : a.data.toList = b.data.toList := by
    apply List.ext_getElem
    · rw [size_list, size_list, hs]
    · intro i h1 h2
      have := h i (by rw [← size_list]; exact h1)
      simpa [bat, List.getD, List.getElem?_eq_getElem h1, List.getElem?_eq_getElem h2] using this
  have hd : a.data = b.data := by rw [← Array.toList_inj]; exact hl
  exact ByteArray.ext hd
theorem bat_append (a b : ByteArray) (i : Nat) : bat (a ++ b) i = if i < a.size then bat a i else bat b (i - a.size) := by
  unfold bat
  rw [ByteArray.data_append, Array.toList_append, List.getD, List.getD, List.getD]
  by_cases h : i < a.size
  · rw [if_pos h, List.getElem?_append_left (by rw [size_list]; exact h)]
  · rw [if_neg h, List.getElem?_append_right (by rw [size_list]; omega), size_list]
theorem bat_extract (a : ByteArray) (x y i : Nat) : bat (a.extract x y) i = if x + i < y then bat a (x + i) else 0 := by
  unfold bat
  rw [ByteArray.data_extract, Array.toList_extract, List.getD, List.getD, List.extract_eq_take_drop]
  by_cases h : x + i < y
  · rw [if_pos h, List.getElem?_take_of_lt (by omega), List.getElem?_drop]
  · rw [if_neg h, List.getElem?_eq_none (by rw [List.length_take]; omega)]; rfl
theorem bat_zeros (n i : Nat) : bat (zeros n) i = 0 := by
  by_cases h : i < n
  · simp [bat, zeros, List.getD, h]
  · exact bat_out (by rw [size_zeros]; omega)
theorem size_extract (a : ByteArray) (x y : Nat) : (a.extract x y).size = min y a.size - x := ByteArray.size_extract
theorem bat_sized (s : ByteArray) (n i : Nat) : bat (sizedS s n) i = if i < n then bat s i else 0 := by
  unfold sizedS
  by_cases h : n ≤ s.size
  · rw [if_pos h, bat_extract, Nat.zero_add]
  · rw [if_neg h, bat_append, bat_zeros]
    by_cases h1 : i < s.size
    · rw [if_pos h1, if_pos (by omega)]
    · rw [if_neg h1, bat_out (by omega)]; simp
theorem putS_size (s : ByteArray) (off : Nat) (b : ByteArray) : (putS s off b).size = max s.size (off + b.size) := by
  unfold putS
  rw [ByteArray.size_append, ByteArray.size_append, size_extract, size_extract, sizedS_size]
  omega
theorem bat_put (s : ByteArray) (off : Nat) (b : ByteArray) (i : Nat) : bat (putS s off b) i = if off ≤ i ∧ i < off + b.size then bat b (i - off) else bat s i := by
  by_cases hM : i < max s.size (off + b.size)
  · have e1 : ((sizedS s (max s.size (off + b.size))).extract 0 off).size = off := by rw [size_extract, sizedS_size]; omega
    unfold putS
    rw [bat_append, bat_append, ByteArray.size_append, e1, bat_extract, bat_extract, bat_sized, bat_sized]
    by_cases h1 : i < off
    · rw [if_pos (by omega), if_pos h1, if_pos (by omega), if_pos (by omega), if_neg (by omega), Nat.zero_add]
    · by_cases h2 : i < off + b.size
      · rw [if_pos h2, if_neg h1, if_pos ⟨by omega, h2⟩]
      · rw [if_neg h2, if_pos (by omega), if_pos (by omega), if_neg (by omega), show off + b.size + (i - (off + b.size)) = i from by omega]
  · rw [bat_out (by rw [putS_size]; omega), if_neg (by omega), bat_out (by omega)]
end Go.Proofs.YtimhaidiclbnhaaGreat.Con
/- Writing and truncating: the document's answer; the contents that the law makes. -/
set_option linter.unusedSimpArgs false
set_option linter.unusedVariables false
set_option maxRecDepth 100000
namespace Go.Proofs.YtimhaidiclbnhaaGreat.Con
open Go.ChangeShapes Go.WideShapes Go.ChangeAt Go.RowKit

end Go.Proofs.YtimhaidiclbnhaaGreat.Con
/- Writing as the document has it. -/
set_option linter.unusedSimpArgs false
set_option linter.unusedVariables false
set_option maxRecDepth 100000
namespace Go.Proofs.YtimhaidiclbnhaaGreat.Con
open Go.ChangeShapes Go.WideShapes Go.ChangeAt Go.RowKit

end Go.Proofs.YtimhaidiclbnhaaGreat.Con
/- Punching as the document has it. -/
set_option linter.unusedSimpArgs false
set_option linter.unusedVariables false
set_option maxRecDepth 100000
namespace Go.Proofs.YtimhaidiclbnhaaGreat.Con
open Go.ChangeShapes Go.WideShapes Go.ChangeAt Go.RowKit

def mkN (n : Nat) (f : Nat → UInt8) : ByteArray := ⟨((List.range n).map f).toArray⟩
/-- block b is a row of n bytes f, above the base world -/
structure RowN (w0 : World) (b n : Nat) (f : Nat → UInt8) (wr : World) : Prop where
  bel : Below w0.heap.size w0 wr
  lo : w0.heap.size ≤ b
  cell : ∀ j, j < n → wr.cell? ⟨b, j, none⟩ = some (.int .u8 ((f j).toNat : Int))
  fz : ∀ j, j < n → wr.frozen? ⟨b, j, none⟩ = false
theorem RowN.congr {w0 wr : World} {b n : Nat} {f g : Nat → UInt8} (h : RowN w0 b n f wr) (hf : ∀ j, j < n → f j = g j) : RowN w0 b n g wr :=
  ⟨h.bel, h.lo, fun j hj => by rw [← hf j hj]; exact h.cell j hj, h.fz⟩
theorem RowN.set {w0 wr : World} {b n : Nat} {f : Nat → UInt8} (h : RowN w0 b n f wr) (k : Nat) (x : UInt8) : RowN w0 b n (fun j => if j = k then x else f j) (wr.setCell ⟨b, k, none⟩ (.int .u8 (x.toNat : Int))) := by
  refine ⟨h.bel.setCell (p := ⟨b, k, none⟩) h.lo _, h.lo, fun j hj => ?_, fun j hj => by rw [World.frozen?_setCell]; exact h.fz j hj⟩
  by_cases e : j = k
  · subst e
    rw [World.cell?_setCell_same _ _ _ (h.cell j hj), if_pos rfl]
  · rw [World.cell?_setCell_other _ _ _ _ (by intro h; exact e (by cases h; rfl)), h.cell j hj, if_neg e]
theorem RowN.conv {w0 wr : World} {b n : Nat} {f : Nat → UInt8} (h : RowN w0 b n f wr) (cap : Nat) : (convert 68 9 (.slice (some ⟨b, 0, none⟩) n cap)).run Tryz.prog wr = .ok (.string (mkN n f)) wr := by
  refine conv_bytes wr b n cap ((List.range n).map f) (by simp) ?_
  intro j hj
  have hj' : j < n := by simpa using hj
  rw [h.cell j hj']
  simp
theorem RowN.start (w : World) (s : ByteArray) (C : Nat) (lo hi : Nat) (hm : s.size ≤ lo) : RowN w w.heap.size s.size (bat s) (w.alloc (.cells (bytesRow s C) 5 (lo, hi))) := by
  refine ⟨(Below.refl _ _).alloc (Nat.le_refl _) _, Nat.le_refl _, fun j hj => ?_, fun j hj => ?_⟩
  · rw [World.cell?_alloc_mark]
    have h2 : j < s.data.size := hj
    have h3 : s.data[j]? = some s.data[j] := Array.getElem?_eq_getElem h2
    simp [bytesRow, Array.getElem?_append, h3, bat, List.getD, hj]
  · rw [World.frozen?_alloc_mark]
    simp
    omega
end Go.Proofs.YtimhaidiclbnhaaGreat.Con
/- Plain facts for the laws on writes apart and on truncating twice. -/
set_option linter.unusedSimpArgs false
set_option linter.unusedVariables false
set_option maxRecDepth 100000
namespace Go.Proofs.YtimhaidiclbnhaaGreat.Con
open Go.ChangeShapes Go.WideShapes Go.ChangeAt Go.RowKit

theorem write_ok {s b : ByteArray} {o : Nat} (hs : s.size ≤ 128) (ho : o + b.size ≤ 128) (hb : 0 < b.size) : writeV s (o : Int) b = (putS s o b, 0) := by
  unfold writeV
  rw [if_neg (by rw [longB_iff]; omega), if_neg (by rw [badB_iff]; omega), if_neg (by omega), show ((o : Int)).toNat = o from by omega]
theorem put_comm (s a b : ByteArray) (o p : Nat) (h : o + a.size ≤ p) : putS (putS s o a) p b = putS (putS s p b) o a := by
  apply bat_ext
  · rw [putS_size, putS_size, putS_size, putS_size]; omega
  · intro i _
    rw [bat_put, bat_put, bat_put, bat_put]
    by_cases c1 : p ≤ i ∧ i < p + b.size
    · rw [if_pos c1, if_neg (by omega), if_pos c1]
    · rw [if_neg c1, if_neg c1]
end Go.Proofs.YtimhaidiclbnhaaGreat.Con
/- Layer 46: what holds of the model goes on holding. -/
set_option linter.unusedSimpArgs false
set_option linter.unusedVariables false
set_option maxRecDepth 100000
namespace Go.Proofs.YtimhaidiclbnhaaGreat.Ver
open Go.ChangeShapes Go.WideShapes Go.ChangeAt Go.RowKit
open Des (Dv De Dn DIn DBlk DAns Vi At RowOf ints DSz)
open Ara (Ar ARow)
open Con (StrRow)

theorem getD_mem0 {l : List ByteArray} {i : Nat} (h : ∀ y, y ∈ l → y.size ≤ 1000) : (l.getD i ⟨#[]⟩).size ≤ 1000 := by
  by_cases hi : i < l.length
  · rw [show l.getD i ⟨#[]⟩ = l[i] from by simp [List.getD, hi]]; exact h _ (List.getElem_mem hi)
  · rw [show l.getD i ⟨#[]⟩ = ⟨#[]⟩ from by simp [List.getD, hi]]; exact Nat.zero_le _
theorem write_size {s b : ByteArray} {o : Int} (h : s.size ≤ 1000) : (Con.writeV s o b).1.size ≤ 1000 := by
  unfold Con.writeV
  split
  · exact h
  split
  · exact h
  split
  · exact h
  · rename_i h1 h2 h3
    rw [Con.longB_iff] at h1
    rw [Con.badB_iff] at h2
    show (Con.putS s o.toNat b).size ≤ 1000
    rw [Con.putS_size]
    omega
theorem trunc_size {s : ByteArray} {o : Int} (h : s.size ≤ 1000) : (Con.truncV s o).1.size ≤ 1000 := by
  unfold Con.truncV
  split
  · exact h
  split
  · exact h
  · rename_i h1 h2
    rw [Con.badB_iff] at h2
    show (Con.sizedS s o.toNat).size ≤ 1000
    rw [Con.sizedS_size]
    omega
theorem punch_size {s : ByteArray} {o n : Int} (h : s.size ≤ 1000) : (Con.punchV s o n).1.size ≤ 1000 := by
  unfold Con.punchV
  split
  · exact h
  split
  · exact h
  split
  · exact h
  · rename_i h1 h2 h3
    rw [Con.longB_iff] at h1
    rw [Con.badB_iff] at h2
    show (Con.putS s o.toNat _).size ≤ 1000
    rw [Con.putS_size, Con.sizedS_size]
    omega
/-- the histories are no longer than K -/
def HL (K : Nat) (s : St) : Prop := ∀ i, i < s.h.length → (s.h.getD i ([], 0)).1.length ≤ K
theorem ok_ch {K : Nat} {s : St} (h : Ok K s) (hl : HL K s) (f : Nat) {d : ByteArray} (hd : d.size ≤ 1000) : Ok K (chS s f d) := by
  unfold chS
  refine { h with fa := ?_, la := ?_, h := ?_, st := ?_, nf := ?_, hl := ?_, sz := ?_, af := ?_ }
  · show (s.fs.set f d).length ≤ 1000; rw [List.length_set]; exact h.nf
  · show s.fa.length = (s.fs.set f d).length; rw [List.length_set]; exact h.fa
  · show s.la.length = (s.fs.set f d).length; rw [List.length_set]; exact h.la
  · show (s.h.set f _).length = (s.fs.set f d).length; rw [List.length_set, List.length_set]; exact h.h
  · show s.st.length = (s.fs.set f d).length; rw [List.length_set]; exact h.st
  · intro i hi
    have hi : i < s.h.length := by have : i < (s.h.set f ((s.h.getD f ([], 0)).1 ++ [d], (s.h.getD f ([], 0)).2)).length := hi; rwa [List.length_set] at this
    show ((s.h.set f ((s.h.getD f ([], 0)).1 ++ [d], (s.h.getD f ([], 0)).2)).getD i ([], 0)).1.length ≤ K + 1
    rw [getD_set0]
    split
    · rename_i hc
      have := hl f hc.2
      simp only [List.length_append, List.length_singleton]
      omega
    · exact Nat.le_trans (hl i hi) (by omega)
  · intro y hy
    have hy : y ∈ s.fs.set f d := hy
    rcases List.mem_or_eq_of_mem_set hy with h1 | h1
    · exact h.sz y h1
    · rw [h1]; exact hd
  · intro p a ha
    show ∃ f' : Nat, a.fi = (f' : Int) ∧ f' < (s.fs.set f d).length
    rw [List.length_set]
    exact h.af p a ha
theorem ok_d {K : Nat} {s : St} (h : Ok K s) {d : De} (hd : Des.Rt d) : Ok K { s with d := d } := { h with rt := hd }
theorem ok_sy {K : Nat} {s : St} (h : Ok K s) (f : Nat) (x : Ev) : Ok K (syS s f x) := by
  unfold syS
  split
  · refine { h with h := ?_, hl := ?_ }
    · show (s.h.set f _).length = s.fs.length; rw [List.length_set]; exact h.h
    · intro i hi
      have hi : i < s.h.length := by
        have : i < (s.h.set f ((s.h.getD f ([], 0)).1, Con.syncV (s.h.getD f ([], 0)).1.length (s.h.getD f ([], 0)).2 ((s.st.getD f []).getD x.bg.toNat 0 - 1))).length := hi
        rwa [List.length_set] at this
      show ((s.h.set f _).getD i ([], 0)).1.length ≤ K + 1
      rw [getD_set0]
      split
      · rename_i hc
        exact h.hl f hc.2
      · exact h.hl i hi
  · exact h
theorem ok_ar {K : Nat} {s : St} (h : Ok K s) (p : Nat) {L : List Ar} (hl : L.length ≤ 100) (hf : ∀ a, a ∈ L → ∃ f : Nat, a.fi = (f : Int) ∧ f < s.fs.length) : Ok K { s with ar := s.ar.set p L } := by
  refine { h with ar := ?_, al := ?_, af := ?_ }
  · show (s.ar.set p L).length = _; rw [List.length_set]; exact h.ar
  · intro q
    show ((s.ar.set p L).getD q []).length ≤ 100
    rw [getD_set0]
    split
    · exact hl
    · exact h.al q
  · intro q a ha
    have ha : a ∈ (s.ar.set p L).getD q [] := ha
    rw [getD_set0] at ha
    split at ha
    · exact hf a ha
    · exact h.af q a ha
theorem map_mem {l : List Ar} {a y : Ar} (h0 : (Ara.mapV l a).2 = 0) (hy : y ∈ (Ara.mapV l a).1) : (y = a ∨ y ∈ l) := by
  unfold Ara.mapV at h0 hy
  split at hy
  · exact Or.inr hy
  split at hy
  · exact Or.inr hy
  split at hy
  · exact Or.inr hy
  split at hy
  · exact Or.inr hy
  · simp only [Ara.insAt, List.mem_append, List.mem_cons] at hy
    rcases hy with h1 | h1 | h1
    · exact Or.inr (List.mem_of_mem_take h1)
    · exact Or.inl h1
    · exact Or.inr (List.mem_of_mem_drop h1)
theorem map_len {l : List Ar} {a : Ar} (h : l.length ≤ 100) : (Ara.mapV l a).1.length ≤ 100 := by
  unfold Ara.mapV
  split
  · exact h
  split
  · exact h
  split
  · exact h
  split
  · exact h
  · rename_i h1 h2 h3 h4
    have := Ara.check_len (by simpa using h1 : Ara.checkV l = true)
    simp only [Ara.insAt, List.length_append, List.length_cons, List.length_take, List.length_drop]
    omega
theorem unmap_mem {l : List Ar} {s n : Int} {y : Ar} (hy : y ∈ (Ara.unmapV l s n).1) : ∃ x ∈ l, y.fi = x.fi := by
  unfold Ara.unmapV at hy
  split at hy
  · exact ⟨y, hy, rfl⟩
  split at hy
  · exact ⟨y, hy, rfl⟩
  split at hy
  · exact ⟨y, hy, rfl⟩
  · obtain ⟨x, hx, h1⟩ := Ara.mem_out.1 hy
    refine ⟨x, hx, ?_⟩
    rcases h1 with h1 | h1 <;> · rw [(Ara.part_iff.1 h1).2]
theorem unmap_len {l : List Ar} {s n : Int} (h : l.length ≤ 100) : (Ara.unmapV l s n).1.length ≤ 100 := by
  unfold Ara.unmapV
  split
  · exact h
  split
  · exact h
  split
  · exact h
  · rename_i h1 h2 h3
    show (Ara.outTo l s n l.length).length ≤ 100
    omega
theorem ok_plan {K : Nat} {s : St} (h : Ok K s) (hl : HL K s) (p : Nat) (o : Opr) (x : Ev) : Ok K (planR s p o x).2 := by
  have hz := fun f => getD_mem0 (i := f) h.sz
  unfold planR
  split
  · unfold openedR
    split
    · exact h
    split
    · exact ok_d h (Des.rt_open h.rt)
    · exact h
  · unfold closedR
    split
    · exact ok_d h (Des.rt_close h.rt)
    · exact h
  · unfold readR
    split
    · exact h
    split
    · exact h
    · exact ok_d h (Des.rt_upd h.rt)
  · unfold writeR
    generalize (if andV (Des.lookV s.d p o.fd).fl 4 ≠ 0 ∧ ¬ o.dat.size = 0 then ((s.fs.getD (Des.lookV s.d p o.fd).fi.toNat ⟨#[]⟩).size : Int) else (Des.lookV s.d p o.fd).f) = q
    split
    · exact h
    split
    · exact h
    split
    · exact h
    · exact ok_ch (ok_d h (Des.rt_upd h.rt)) hl _ (write_size (hz _))
  · unfold seekR
    split
    · exact h
    split
    · exact h
    · exact ok_d h (Des.rt_upd h.rt)
  · unfold truncateR
    split
    · exact h
    split
    · exact h
    · exact ok_ch h hl _ (trunc_size (hz _))
  · unfold punchR
    split
    · exact h
    split
    · exact h
    · exact ok_ch h hl _ (punch_size (hz _))
  · unfold syncR
    split
    · exact h
    · exact ok_sy (ok_d h (Des.rt_upd h.rt)) _ _
  · unfold mappedR
    split
    · exact h
    split
    · exact h
    split
    · exact h
    split
    · exact h
    split
    · exact h
    · rename_i h1 h2 h3 h4 h5
      refine ok_ar h p (map_len (h.al p)) fun a ha => ?_
      rcases map_mem (Classical.not_not.1 h5) ha with rfl | h6
      · exact (lk_zero (Classical.not_not.1 h1) h.rt).2.2.2
      · exact h.af p a h6
  · unfold unmapR
    split
    · exact h
    · refine ok_ar h p (unmap_len (h.al p)) fun a ha => ?_
      obtain ⟨y, hy, e⟩ := unmap_mem ha
      rw [e]
      exact h.af p y hy
  · unfold loadR
    split
    · exact h
    split
    · exact h
    · exact h
  · unfold storeR
    split
    · exact h
    split
    · exact h
    split
    · exact h
    split
    · exact h
    · exact ok_ch h hl _ (write_size (hz _))
  · unfold dupR
    split
    · exact ok_d h (Des.rt_dup h.rt)
    · exact h
  · exact h
theorem ok_fail {K : Nat} {s : St} (h : Ok K s) (x : Ev) : Ok K (failS s x) := by
  unfold failS
  refine { h with fa := ?_, la := ?_, fab := ?_ }
  · show (s.fa.set _ _).length = _; rw [List.length_set]; exact h.fa
  · show (s.la.set _ _).length = _; rw [List.length_set]; exact h.la
  · intro f
    show 0 ≤ (s.fa.set _ _).getD f 0 ∧ (s.fa.set _ _).getD f 0 ≤ 1000000
    rw [getD_set0]
    have := h.fab x.fi.toNat
    have := h.fab f
    split <;> omega
theorem hl_ord {K : Nat} {s : St} (x : Ev) (h : Ok K s) : HL (K + 1) (ordS (stS s) x) := by
  have e : (ordS (stS s) x).h = s.h := by unfold ordS; split <;> rfl
  intro i hi
  rw [e] at hi ⊢
  exact h.hl i hi
theorem ok_take {K : Nat} {s : St} (h : Ok K s) (i : Int) (x : Ev) : Ok (K + 1) (takeS s i x).2 := by
  have h1 := ok_ord x h
  unfold takeS
  split
  · exact ok_fail h1 x
  · show Ok (K + 1) (if _ then _ else _)
    split
    · exact ok_plan h1 (hl_ord x h) _ _ _
    · exact h1
/-- the counts that an event leaves alone -/
theorem plan_keep (s : St) (p : Nat) (o : Opr) (x : Ev) : (planR s p o x).2.scr = s.scr ∧ (planR s p o x).2.fs.length = s.fs.length := by
  unfold planR
  split
  · unfold openedR; split; exact ⟨rfl, rfl⟩; split <;> exact ⟨rfl, rfl⟩
  · unfold closedR; split <;> exact ⟨rfl, rfl⟩
  · unfold readR; split; exact ⟨rfl, rfl⟩; split <;> exact ⟨rfl, rfl⟩
  · unfold writeR; generalize (if andV (Des.lookV s.d p o.fd).fl 4 ≠ 0 ∧ ¬ o.dat.size = 0 then ((s.fs.getD (Des.lookV s.d p o.fd).fi.toNat ⟨#[]⟩).size : Int) else (Des.lookV s.d p o.fd).f) = q; split; exact ⟨rfl, rfl⟩; split; exact ⟨rfl, rfl⟩; split; exact ⟨rfl, rfl⟩; exact ⟨rfl, by simp [chS]⟩
  · unfold seekR; split; exact ⟨rfl, rfl⟩; split <;> exact ⟨rfl, rfl⟩
  · unfold truncateR; split; exact ⟨rfl, rfl⟩; split; exact ⟨rfl, rfl⟩; exact ⟨rfl, by simp [chS]⟩
  · unfold punchR; split; exact ⟨rfl, rfl⟩; split; exact ⟨rfl, rfl⟩; exact ⟨rfl, by simp [chS]⟩
  · unfold syncR; generalize (if (Des.lookV s.d p o.fd).cu < s.fa.getD (Des.lookV s.d p o.fd).fi.toNat 0 then s.la.getD (Des.lookV s.d p o.fd).fi.toNat 0 else 0) = q; split; exact ⟨rfl, rfl⟩; unfold syS; split <;> exact ⟨rfl, rfl⟩
  · unfold mappedR; split; exact ⟨rfl, rfl⟩; split; exact ⟨rfl, rfl⟩; split; exact ⟨rfl, rfl⟩; split; exact ⟨rfl, rfl⟩; split <;> exact ⟨rfl, rfl⟩
  · unfold unmapR; split <;> exact ⟨rfl, rfl⟩
  · unfold loadR; split; exact ⟨rfl, rfl⟩; split <;> exact ⟨rfl, rfl⟩
  · unfold storeR; split; exact ⟨rfl, rfl⟩; split; exact ⟨rfl, rfl⟩; split; exact ⟨rfl, rfl⟩; split; exact ⟨rfl, rfl⟩; exact ⟨rfl, by simp [chS]⟩
  · unfold dupR; split <;> exact ⟨rfl, rfl⟩
  · exact ⟨rfl, rfl⟩
theorem ord_keep (s : St) (x : Ev) : (ordS (stS s) x).scr = s.scr ∧ (ordS (stS s) x).fs = s.fs := by unfold ordS; split <;> exact ⟨rfl, rfl⟩
theorem take_keep (s : St) (i : Int) (x : Ev) : (takeS s i x).2.scr = s.scr ∧ (takeS s i x).2.fs.length = s.fs.length := by
  obtain ⟨h1, h2⟩ := ord_keep s x
  unfold takeS
  split
  · exact ⟨h1, by show (ordS (stS s) x).fs.length = _; rw [h2]⟩
  · show (ite _ _ _ : St).scr = _ ∧ (ite _ _ _ : St).fs.length = _
    split
    · obtain ⟨h3, h4⟩ := plan_keep (ordS (stS s) x) x.pr.toNat (opAt s x.pr.toNat x.ix.toNat) x
      exact ⟨h3.trans h1, by rw [h4, h2]⟩
    · exact ⟨h1, by rw [h2]⟩
theorem kn_keep {s t : St} (h : t.scr = s.scr ∧ t.fs.length = s.fs.length) (x : Ev) : knB t x = knB s x := by unfold knB; rw [h.1, h.2]
end Go.Proofs.YtimhaidiclbnhaaGreat.Ver
/- A region that draws its order, each operation looked at once. -/
namespace Go.Proofs.YtimhaidiclbnhaaGreat
open Go

/-- a agrees with F wherever all that write there have come up -/
structure Near (ops : Array Oper) (F : Act) (l : Array Bool) (a : Act) : Prop where
  size : a.tmps.size = F.tmps.size
  defers : a.defers = F.defers
  same : ∀ t, (∀ j o, ops[j]? = some o → o.dst = some t → l.getD j false = true) → a.tmps.getD t undef = F.tmps.getD t undef
/-- each operation waits for those whose results it looks at; it waits for earlier ones alone; none selects -/
def calmOk (ops : Array Oper) : Bool :=
  Region.noSelect ops && (List.range ops.size).all fun i => match ops[i]? with
    | some o => (o.looksAt ops).all (fun t => (List.range ops.size).all fun j => match ops[j]? with
        | some p => p.dst != some t || o.after.any (fun e => Region.binds .any e && e.on == j)
        | none => true) && o.after.all (fun e => decide (e.on < i))
    | none => true
theorem calm_spec {ops : Array Oper} (h : calmOk ops = true) {i : Nat} {o : Oper} (hi : ops[i]? = some o) :
    (∀ t ∈ o.looksAt ops, ∀ j p, ops[j]? = some p → p.dst = some t → ∃ e ∈ o.after, Region.binds .any e = true ∧ e.on = j) ∧ ∀ e ∈ o.after, e.on < i := by
  unfold calmOk at h
  simp only [Bool.and_eq_true, List.all_eq_true, List.mem_range] at h
  have hlt : i < ops.size := (Array.getElem?_eq_some_iff.1 hi).1
  have h1 := h.2 i hlt
  rw [hi] at h1
  simp only [Bool.and_eq_true, List.all_eq_true, List.mem_range, Array.all_eq_true_iff_forall_mem, decide_eq_true_eq] at h1
  refine ⟨fun t ht j p hj hd => ?_, h1.2⟩
  have h2 := h1.1 t ht j (Array.getElem?_eq_some_iff.1 hj).1
  rw [hj] at h2
  simp only [hd, bne_self_eq_false, Bool.false_or, Array.any_eq_true] at h2
  obtain ⟨k, hk, h3⟩ := h2
  simp only [Bool.and_eq_true, beq_iff_eq] at h3
  exact ⟨_, Array.getElem_mem hk, h3.1, h3.2⟩
theorem calm_noSelect {ops : Array Oper} (h : calmOk ops = true) : Region.noSelect ops = true := by
  unfold calmOk at h; simp only [Bool.and_eq_true] at h; exact h.1
section
variable {P : Program} {ops : Array Oper} {F : Act} {l : Array Bool} {a : Act} {i : Nat} {o : Oper}
theorem Near.looks (hn : Near ops F l a) (hc : calmOk ops = true) (hi : ops[i]? = some o) (hr : ∀ e ∈ o.after, Region.binds .any e = true → l.getD e.on false = true) :
    ∀ t ∈ o.looksAt ops, a.tmps.getD t undef = F.tmps.getD t undef := by
  intro t ht
  refine hn.same t (fun j p hj hd => ?_)
  obtain ⟨e, he, hb, rfl⟩ := (calm_spec hc hi).1 t ht j p hj hd
  exact hr e he hb
theorem Near.exec (hn : Near ops F l a) (hc : calmOk ops = true) (hi : ops[i]? = some o) (hr : ∀ e ∈ o.after, Region.binds .any e = true → l.getD e.on false = true) :
    execOp a.eval o = execOp F.eval o :=
  execOp_congr o (fun cs b => Region.noSelect_spec (calm_noSelect hc) i o cs b hi) fun x hx => by
    cases x with
    | tmp t => exact hn.looks hc hi hr t (List.mem_append_left _ (List.mem_filterMap.2 ⟨.tmp t, by simpa using hx, rfl⟩))
    | _ => rfl
theorem getElem_of_getD {xs ys : Array Value} (hs : xs.size = ys.size) {t : Nat} (h : xs.getD t undef = ys.getD t undef) : xs[t]? = ys[t]? := by
  rcases Nat.lt_or_ge t xs.size with h1 | h1
  · have h2 : t < ys.size := by omega
    simp [h1, h2] at h ⊢; exact h
  · rw [Array.getElem?_eq_none h1, Array.getElem?_eq_none (by omega)]
theorem put_size (a : Act) (d : Option Tmp) (v : Value) : (a.put d v).tmps.size = a.tmps.size := by
  cases d <;> simp [Act.put]
theorem put_defers' (a : Act) (d : Option Tmp) (v : Value) : (a.put d v).defers = a.defers := by
  cases d <;> rfl
theorem put_other (a : Act) {d : Option Tmp} (v : Value) {t : Nat} (h : d ≠ some t) : (a.put d v).tmps.getD t undef = a.tmps.getD t undef := by
  cases d with
  | none => rfl
  | some d =>
    have hne : d ≠ t := fun e => h (e ▸ rfl)
    simp [Act.put, Array.getElem?_setIfInBounds_ne hne]
theorem put_same (a F : Act) (hs : a.tmps.size = F.tmps.size) (t : Nat) (v : Value) (h : F.put (some t) v = F) : (a.put (some t) v).tmps.getD t undef = F.tmps.getD t undef := by
  have h1 : (F.put (some t) v).tmps.getD t undef = F.tmps.getD t undef := by rw [h]
  rw [← h1]
  rcases Nat.lt_or_ge t a.tmps.size with h2 | h2
  · have h3 : t < F.tmps.size := by omega
    simp [Act.put, h2, h3]
  · have h3 : F.tmps.size ≤ t := by omega
    simp [Act.put]
    rw [if_neg (by omega), if_neg (by omega)]
theorem Near.put (hn : Near ops F l a) (hi : ops[i]? = some o) (v : Value) (hv : F.put o.dst v = F) : Near ops F (l.setIfInBounds i true) (a.put o.dst v) := by
  refine ⟨(put_size _ _ _).trans hn.size, (put_defers' _ _ _).trans hn.defers, fun t ht => ?_⟩
  by_cases hd : o.dst = some t
  · rw [hd] at hv ⊢
    exact put_same a F hn.size t v hv
  · rw [put_other _ _ hd]
    refine hn.same t (fun j p hj hdj => ?_)
    have h1 := ht j p hj hdj
    have hne : i ≠ j := fun e => by
      subst e; rw [hi] at hj; cases hj; exact hd hdj
    rwa [getD_set_ne false hne] at h1
/-- all that has come up has come behind what it waits for -/
def Closed (ops : Array Oper) (l : Array Bool) : Prop := ∀ j o, ops[j]? = some o → l.getD j false = true → ∀ e ∈ o.after, Region.binds .any e = true → l.getD e.on false = true
/-- what is asked of operation i -/
def StepOk (P : Program) (ops : Array Oper) (F : Act) (T : Array Bool → World → Prop) (i : Nat) (o : Oper) : Prop :=
  ∀ l w, Closed ops l → T l w → l.getD i true = false → (∀ e ∈ o.after, Region.binds .any e = true → l.getD e.on false = true) →
    (Region.wanted o (yielded ops F.tmps) = true → o.wp P F w (fun a' w' => a' = F ∧ T (l.setIfInBounds i true) w') (fun _ _ _ => False)) ∧
    (Region.wanted o (yielded ops F.tmps) = false → F.put o.dst undef = F ∧ T (l.setIfInBounds i true) w)
def StepsOk (P : Program) (ops : Array Oper) (F : Act) (T : Array Bool → World → Prop) : Nat → List Oper → Prop
  | _, [] => True
  | i, o :: os => StepOk P ops F T i o ∧ StepsOk P ops F T (i + 1) os
theorem StepsOk.at {T : Array Bool → World → Prop} : ∀ {os : List Oper} {k i : Nat} {o : Oper}, StepsOk P ops F T k os → os[i]? = some o → StepOk P ops F T (k + i) o
  | [], _, _, _, _, h => by simp at h
  | x :: os, k, 0, o, hs, h => by simp at h; subst h; exact hs.1
  | x :: os, k, i + 1, o, hs, h => by
    have := StepsOk.at hs.2 (i := i) (by simpa using h)
    rwa [show k + 1 + i = k + (i + 1) from by omega] at this
/-- how many operations have not come up -/
def unlisted (l : Array Bool) : Nat := (l.toList.filter (fun b => !b)).length
theorem unlisted_set {l : Array Bool} {i : Nat} (h : l.getD i true = false) : unlisted (l.setIfInBounds i true) < unlisted l := by
  unfold unlisted
  have hi : i < l.size := by
    rcases Nat.lt_or_ge i l.size with h' | h'
    · exact h'
    · simp [Array.getElem?_eq_none h'] at h
  have hv : l.toList[i]? = some false := by
    simp [hi] at h; simp [hi, h]
  rw [Array.toList_setIfInBounds]
  generalize l.toList = L at hv
  clear h hi
  induction L generalizing i with
  | nil => simp at hv
  | cons b r ih =>
    cases i with
    | zero => simp at hv; subst hv; simp
    | succ i =>
      have := ih (i := i) (by simpa using hv)
      cases b <;> simp <;> omega
theorem all_up (hc : calmOk ops = true) (hl : l.size = ops.size) (hr : Region.ready .any ops l = []) : ∀ j, j < ops.size → l.getD j false = true := by
  intro j
  induction j using Nat.strongRecOn with
  | _ j ih =>
    intro hj
    cases hb : l.getD j false with
    | true => rfl
    | false =>
      have hmem : j ∈ Region.ready .any ops l := by
        refine mem_ready.2 ⟨?_, ops[j], Array.getElem?_eq_getElem hj, fun e he _ => ?_⟩
        · have hjl : j < l.size := by omega
          simp [hjl] at hb ⊢; exact hb
        · have := (calm_spec hc (Array.getElem?_eq_getElem hj)).2 e he
          exact ih e.on this (by omega)
      rw [hr] at hmem; cases hmem
/-- the frame with all that the operations yield -/
def putAll : List Oper → List Value → Act → Act
  | o :: os, v :: vs, a => putAll os vs (a.put o.dst v)
  | _, _, a => a
theorem putAll_same : ∀ (os : List Oper) (vs : List Value) (a : Act), (putAll os vs a).tmps.size = a.tmps.size ∧ (putAll os vs a).defers = a.defers ∧ ∀ t, (∀ o ∈ os, o.dst ≠ some t) → (putAll os vs a).tmps.getD t undef = a.tmps.getD t undef
  | [], _, a => ⟨rfl, rfl, fun _ _ => rfl⟩
  | o :: os, [], a => ⟨rfl, rfl, fun _ _ => rfl⟩
  | o :: os, v :: vs, a => by
    obtain ⟨h1, h2, h3⟩ := putAll_same os vs (a.put o.dst v)
    refine ⟨h1.trans (put_size _ _ _), h2.trans (put_defers' _ _ _), fun t ht => ?_⟩
    exact (h3 t (fun p hp => ht p (by simp [hp]))).trans (put_other _ _ (ht o (by simp)))
end
end Go.Proofs.YtimhaidiclbnhaaGreat
