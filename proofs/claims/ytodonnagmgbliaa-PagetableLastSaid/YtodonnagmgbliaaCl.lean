/- slices.Clone at entries. -/
import Derived.Test.YtodonnagmgbliaaAr
import Derived.Shelf.SlicesE.Clone
import Derived.Ground.SlgnProg
namespace Go.Proofs.Ytodonnagmgbliaa
open Go.ChangeShapes Go.WideShapes Go.ChangeAt Go.RowKit

def cloneRen : Go.Shelf.Ren := ⟨fun | 41 => 31 | n => n, fun | 22 => 26 | 23 => 30 | 4 => 4 | n => n, fun | n => n⟩
theorem cloneLaid : Go.Proofs.SlLaysE0.n41 Try.prog cloneRen := {
  mixed := by kernel_rfl
  f41 := ⟨Try.f31.name, by decide, Try.func31.trans (congrArg some (by kernel_rfl))⟩
  t4 := Try.underlying4
  a4 := Try.isAgg4
  z4 := Try.sizeOf4
  v4 := Try.zeroValue4
  t22 := Try.underlying26
  a22 := Try.isAgg26
  z22 := Try.sizeOf26
  v22 := Try.zeroValue26 }
theorem cells_one {l : List Ar} : ∀ u ∈ flat l, u.oneCell' = true := by
  intro u hu
  obtain ⟨a, _, ha⟩ := List.mem_flatMap.1 hu
  simp [Ar.cells] at ha
  rcases ha with rfl | rfl | rfl | rfl | rfl <;> rfl
theorem ARow.flat_cell {w : World} {g : Nat} {l : List Ar} (h : ∀ j, j < l.length → Cel w g (j * 5) (l.getD j Ar.zero)) (i : Nat) (u : Value) (hu : (flat l)[i]? = some u) : w.cell? ⟨g, i, none⟩ = some u := by
  have hi : i < l.length * 5 := by rw [← flat_len]; exact (List.getElem?_eq_some_iff.1 hu).1
  have hq : i / 5 < l.length := by omega
  have hr : i % 5 < 5 := Nat.mod_lt _ (by omega)
  have he : i / 5 * 5 + i % 5 = i := by omega
  rw [← he, flat_at l _ hq _ hr] at hu
  have hc := h _ hq
  rw [← he]
  have h5 : i % 5 = 0 ∨ i % 5 = 1 ∨ i % 5 = 2 ∨ i % 5 = 3 ∨ i % 5 = 4 := by omega
  rcases h5 with h | h | h | h | h <;> rw [h] at hu ⊢ <;> simp [Ar.cells] at hu <;> rw [← hu]
  · exact hc.c0
  · exact hc.c1
  · exact hc.c2
  · exact hc.c3
  · exact hc.c4
theorem clone_any (B : Nat) (a : Option Addr) (l : List Ar) (cap : Nat) (w : World) (h : ARow B a cap l w) (hl : l.length ≤ 10000) :
    Calls Try.prog 31 #[.slice a l.length cap] w fun e w' => ∃ v', e = .returned v' ∧ w'.ownsRow w.heap.size 30 5 v' l.length (flat l) ∧ Below w.heap.size w w' := by
  rcases h with ⟨rfl, rfl, rfl⟩ | ⟨g, rfl, h2, h3, h4, h5, h6⟩
  · refine (AnyE.slices_Clone_nil cloneLaid 0 0 w).mono ?_
    rintro e w' ⟨rfl, rfl⟩
    exact ⟨_, rfl, ⟨by simp [flat], Or.inl ⟨rfl, rfl⟩⟩, Below.refl _ _⟩
  · obtain ⟨i0, hi, hz0, hz1, hz2⟩ := info_parts area_info
    refine (AnyE.slices_Clone cloneLaid i0 _ 5 32 hi hz0 hz1 hz2 rfl (by decide) Try.sizeOf30 g 0 l.length cap (flat l) w (flat_len l) (by unfold maxLen; omega) (by omega) (fun j u hj => by rw [Nat.zero_add]; exact ARow.flat_cell h6 j u hj) cells_one).mono ?_
    rintro e w' ⟨v', rfl, ho, _, hb⟩
    exact ⟨v', rfl, ho, hb⟩

theorem Blk.setOther {W : World} {g : Nat} {a : Ar} (h : Blk W g a) (g2 o : Nat) (v : Value) (hne : g ≠ g2) : Blk (W.setCell ⟨g2, o, none⟩ v) g a :=
  ⟨by simpa [World.setCell] using h.hi, by rw [World.cell?_setCell_other _ _ _ _ (by intro e; cases e; exact hne rfl)]; exact h.c0, by rw [World.cell?_setCell_other _ _ _ _ (by intro e; cases e; exact hne rfl)]; exact h.c1, by rw [World.cell?_setCell_other _ _ _ _ (by intro e; cases e; exact hne rfl)]; exact h.c2, by rw [World.cell?_setCell_other _ _ _ _ (by intro e; cases e; exact hne rfl)]; exact h.c3, by rw [World.cell?_setCell_other _ _ _ _ (by intro e; cases e; exact hne rfl)]; exact h.c4, fun i hi => by rw [World.frozen?_setCell]; exact h.f i hi⟩
theorem Blk.two (w : World) (s c f : Int) (p b : Bool) (s' c' f' : Int) (p' b' : Bool) :
    Blk ((w.alloc (.cells #[.int .i64 s, .int .i64 c, .int .i64 f, .bool p, .bool b] 30)).alloc (.cells #[.int .i64 s', .int .i64 c', .int .i64 f', .bool p', .bool b'] 30)) w.heap.size ⟨s, c, f, p, b⟩ ∧
    Blk ((w.alloc (.cells #[.int .i64 s, .int .i64 c, .int .i64 f, .bool p, .bool b] 30)).alloc (.cells #[.int .i64 s', .int .i64 c', .int .i64 f', .bool p', .bool b'] 30)) (w.heap.size + 1) ⟨s', c', f', p', b'⟩ := by
  have h := Blk.new (w.alloc (.cells #[.int .i64 s, .int .i64 c, .int .i64 f, .bool p, .bool b] 30)) s' c' f' p' b'
  rw [show (w.alloc (.cells #[.int .i64 s, .int .i64 c, .int .i64 f, .bool p, .bool b] 30)).heap.size = w.heap.size + 1 from by simp] at h
  exact ⟨(Blk.new w s c f p b).below ((Below.refl _ _).alloc (Nat.le_refl _) _), h⟩

end Go.Proofs.Ytodonnagmgbliaa
