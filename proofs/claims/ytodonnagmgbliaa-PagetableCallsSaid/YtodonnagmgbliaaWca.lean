/- The walk of PagetableCalls. -/
import Derived.Test.YtodonnagmgbliaaDr
import Derived.Deep.CutBlock
namespace Go.Proofs.Ytodonnagmgbliaa
open Go.ChangeShapes Go.WideShapes Go.ChangeAt Go.RowKit

theorem tape_at {w0 : World} (W : World) (a : Option Addr) (len cap : Nat) (ha : ArgRow w0 a len) (hl : len ≤ maxLen) (hb : Below w0.heap.size w0 W) : TP w0 W.heap.size a len cap (W.alloc (.cells #[.slice a len cap, .int .i64 0] 25)) :=
  ⟨0, ha, hb.size, by simp, hb.trans ((Below.refl _ _).alloc hb.size _), by simp, by simp, by simp, Nat.zero_le _, hl⟩
/-- what is known of the world in the midst of a law: the list l, the tape in block T -/
structure Mid (w0 wx : World) (T : Nat) (a : Option Addr) (len cap : Nat) (b : Option Addr) (c : Nat) (l : List Ar) (W : World) : Prop where
  bel : Below wx.heap.size wx W
  row : ARow 0 b c l W
  tp : TP w0 T a len cap W
  lo : wx.heap.size ≤ T
  ob : ∀ g, b = some ⟨g, 0, none⟩ → g ≠ T
theorem ARow.keep {B cap : Nat} {a : Option Addr} {l : List Ar} {w w' : World} (h : ARow B a cap l w) (hs : w.heap.size ≤ w'.heap.size) (hk : ∀ g, a = some ⟨g, 0, none⟩ → g < w.heap.size → w'.heap[g]? = w.heap[g]?) : ARow B a cap l w' := by
  rcases h with h | ⟨g, h1, h2, h3, h4, h5, h6⟩
  · exact Or.inl h
  · have hc : ∀ o, w'.cell? ⟨g, o, none⟩ = w.cell? ⟨g, o, none⟩ := fun o => World.cell?_of_block (w := w) (a := ⟨g, o, none⟩) (hk g h1 h3)
    exact Or.inr ⟨g, h1, h2, by omega, h4, h5, fun j hj => ⟨by rw [hc]; exact (h6 j hj).c0, by rw [hc]; exact (h6 j hj).c1, by rw [hc]; exact (h6 j hj).c2, by rw [hc]; exact (h6 j hj).c3, by rw [hc]; exact (h6 j hj).c4⟩⟩
theorem Mid.below {w0 wx : World} {T : Nat} {a : Option Addr} {len cap : Nat} {b : Option Addr} {c : Nat} {l : List Ar} {W W' : World} (h : Mid w0 wx T a len cap b c l W) (hb : Below W.heap.size W W') : Mid w0 wx T a len cap b c l W' :=
  ⟨h.bel.trans (hb.mono h.bel.size), h.row.below hb, h.tp.below hb h.tp.hi, h.lo, h.ob⟩
theorem Mid.tick {w0 wx : World} {T : Nat} {a : Option Addr} {len cap : Nat} {b : Option Addr} {c : Nat} {l : List Ar} {W W' : World} (h : Mid w0 wx T a len cap b c l W) (hk : Tick T W W') (tp : TP w0 T a len cap W') : Mid w0 wx T a len cap b c l W' :=
  ⟨h.bel.trans (hk.below h.lo), h.row.keep (Nat.le_of_eq hk.size.symm) (fun g hg _ => hk.block g (h.ob g hg)), tp, h.lo, h.ob⟩
theorem Tock.belowB {t B : Nat} {w w' : World} (h : Tock t w w') (hB : B ≤ t) (hs : B ≤ w.heap.size) : Below B w w' :=
  ⟨h.os, h.tape, h.output, h.size, fun k hk => h.block k (by omega) (by omega)⟩
/-- the world in the midst of AreaCalls: the list, the tape, the area in block A -/
structure MidA (w0 : World) (T : Nat) (a : Option Addr) (len cap : Nat) (b : Option Addr) (c : Nat) (l : List Ar) (A : Nat) (e : Ar) (W : World) : Prop where
  mid : Mid w0 w0 T a len cap b c l W
  blk : Blk W A e
  ne : A ≠ T
  nb : ∀ g, b = some ⟨g, 0, none⟩ → g ≠ A
  lo : w0.heap.size ≤ A
theorem Mid.tock {w0 wx : World} {T : Nat} {a : Option Addr} {len cap : Nat} {b : Option Addr} {c : Nat} {l : List Ar} {W W' : World} (h : Mid w0 wx T a len cap b c l W) (hk : Tock T W W') (tp : TP w0 T a len cap W') : Mid w0 wx T a len cap b c l W' :=
  ⟨h.bel.trans (hk.belowB h.lo h.bel.size), h.row.keep hk.size (fun g hg hl => hk.block g (h.ob g hg) hl), tp, h.lo, h.ob⟩
theorem MidA.below {w0 : World} {T : Nat} {a : Option Addr} {len cap : Nat} {b : Option Addr} {c : Nat} {l : List Ar} {A : Nat} {e : Ar} {W W' : World} (h : MidA w0 T a len cap b c l A e W) (hb : Below W.heap.size W W') : MidA w0 T a len cap b c l A e W' :=
  ⟨h.mid.below hb, h.blk.below hb, h.ne, h.nb, h.lo⟩
theorem MidA.tock {w0 : World} {T : Nat} {a : Option Addr} {len cap : Nat} {b : Option Addr} {c : Nat} {l : List Ar} {A : Nat} {e : Ar} {W W' : World} (h : MidA w0 T a len cap b c l A e W) (hk : Tock T W W') (tp : TP w0 T a len cap W') : MidA w0 T a len cap b c l A e W' :=
  ⟨h.mid.tock hk tp, h.blk.tock hk h.ne, h.ne, h.nb, h.lo⟩
theorem MidA.set0 {w0 : World} {T : Nat} {a : Option Addr} {len cap : Nat} {b : Option Addr} {c : Nat} {l : List Ar} {A : Nat} {pr pa fr : Int} {wr ac : Bool} {W : World} (h : MidA w0 T a len cap b c l A ⟨pr, pa, fr, wr, ac⟩ W) (z : Int) : MidA w0 T a len cap b c l A ⟨z, pa, fr, wr, ac⟩ (W.setCell ⟨A, 0, none⟩ (.int .i64 z)) := by
  have hA := h.blk.hi
  have hT := h.mid.tp.hi
  have hl := h.mid.lo
  have hother : ∀ k, k ≠ A → (W.setCell ⟨A, 0, none⟩ (.int .i64 z)).heap[k]? = W.heap[k]? := fun k hk => heap_setCell_other W ⟨A, 0, none⟩ k _ hk
  have hsz : (W.setCell ⟨A, 0, none⟩ (.int .i64 z)).heap.size = W.heap.size := by simp [World.setCell]
  refine ⟨⟨h.mid.bel.trans (Below.setCell (p := ⟨A, 0, none⟩) (Below.refl _ W) h.lo _), h.mid.row.keep (Nat.le_of_eq hsz.symm) (fun g hg _ => hother g (h.nb g hg)), ?_, hl, h.mid.ob⟩, ⟨by rw [hsz]; exact hA, World.cell?_setCell_same _ _ _ h.blk.c0, by rw [World.cell?_setCell_other _ _ _ _ (by simp)]; exact h.blk.c1, by rw [World.cell?_setCell_other _ _ _ _ (by simp)]; exact h.blk.c2, by rw [World.cell?_setCell_other _ _ _ _ (by simp)]; exact h.blk.c3, by rw [World.cell?_setCell_other _ _ _ _ (by simp)]; exact h.blk.c4, fun i hi => by rw [World.frozen?_setCell]; exact h.blk.f i hi⟩, h.ne, h.nb, h.lo⟩
  obtain ⟨k, hk⟩ := h.mid.tp
  have hc : ∀ o, (W.setCell ⟨A, 0, none⟩ (.int .i64 z)).cell? ⟨T, o, none⟩ = W.cell? ⟨T, o, none⟩ := fun o => World.cell?_of_block (w := W) (a := ⟨T, o, none⟩) (hother T (Ne.symm h.ne))
  exact ⟨k, hk.row, hk.lo, by rw [hsz]; exact hk.hi, hk.bel.trans (Below.setCell (p := ⟨A, 0, none⟩) (Below.refl _ W) h.lo _), by rw [hc]; exact hk.c0, by rw [hc]; exact hk.c1, by rw [World.frozen?_setCell]; exact hk.fz, hk.kl, hk.lm⟩
theorem MidA.set1 {w0 : World} {T : Nat} {a : Option Addr} {len cap : Nat} {b : Option Addr} {c : Nat} {l : List Ar} {A : Nat} {pr pa fr : Int} {wr ac : Bool} {W : World} (h : MidA w0 T a len cap b c l A ⟨pr, pa, fr, wr, ac⟩ W) (z : Int) : MidA w0 T a len cap b c l A ⟨pr, z, fr, wr, ac⟩ (W.setCell ⟨A, 1, none⟩ (.int .i64 z)) := by
  have hA := h.blk.hi
  have hT := h.mid.tp.hi
  have hl := h.mid.lo
  have hother : ∀ k, k ≠ A → (W.setCell ⟨A, 1, none⟩ (.int .i64 z)).heap[k]? = W.heap[k]? := fun k hk => heap_setCell_other W ⟨A, 1, none⟩ k _ hk
  have hsz : (W.setCell ⟨A, 1, none⟩ (.int .i64 z)).heap.size = W.heap.size := by simp [World.setCell]
  refine ⟨⟨h.mid.bel.trans (Below.setCell (p := ⟨A, 1, none⟩) (Below.refl _ W) h.lo _), h.mid.row.keep (Nat.le_of_eq hsz.symm) (fun g hg _ => hother g (h.nb g hg)), ?_, hl, h.mid.ob⟩, ⟨by rw [hsz]; exact hA, by rw [World.cell?_setCell_other _ _ _ _ (by simp)]; exact h.blk.c0, World.cell?_setCell_same _ _ _ h.blk.c1, by rw [World.cell?_setCell_other _ _ _ _ (by simp)]; exact h.blk.c2, by rw [World.cell?_setCell_other _ _ _ _ (by simp)]; exact h.blk.c3, by rw [World.cell?_setCell_other _ _ _ _ (by simp)]; exact h.blk.c4, fun i hi => by rw [World.frozen?_setCell]; exact h.blk.f i hi⟩, h.ne, h.nb, h.lo⟩
  obtain ⟨k, hk⟩ := h.mid.tp
  have hc : ∀ o, (W.setCell ⟨A, 1, none⟩ (.int .i64 z)).cell? ⟨T, o, none⟩ = W.cell? ⟨T, o, none⟩ := fun o => World.cell?_of_block (w := W) (a := ⟨T, o, none⟩) (hother T (Ne.symm h.ne))
  exact ⟨k, hk.row, hk.lo, by rw [hsz]; exact hk.hi, hk.bel.trans (Below.setCell (p := ⟨A, 1, none⟩) (Below.refl _ W) h.lo _), by rw [hc]; exact hk.c0, by rw [hc]; exact hk.c1, by rw [World.frozen?_setCell]; exact hk.fz, hk.kl, hk.lm⟩
theorem MidA.set2 {w0 : World} {T : Nat} {a : Option Addr} {len cap : Nat} {b : Option Addr} {c : Nat} {l : List Ar} {A : Nat} {pr pa fr : Int} {wr ac : Bool} {W : World} (h : MidA w0 T a len cap b c l A ⟨pr, pa, fr, wr, ac⟩ W) (z : Int) : MidA w0 T a len cap b c l A ⟨pr, pa, z, wr, ac⟩ (W.setCell ⟨A, 2, none⟩ (.int .i64 z)) := by
  have hA := h.blk.hi
  have hT := h.mid.tp.hi
  have hl := h.mid.lo
  have hother : ∀ k, k ≠ A → (W.setCell ⟨A, 2, none⟩ (.int .i64 z)).heap[k]? = W.heap[k]? := fun k hk => heap_setCell_other W ⟨A, 2, none⟩ k _ hk
  have hsz : (W.setCell ⟨A, 2, none⟩ (.int .i64 z)).heap.size = W.heap.size := by simp [World.setCell]
  refine ⟨⟨h.mid.bel.trans (Below.setCell (p := ⟨A, 2, none⟩) (Below.refl _ W) h.lo _), h.mid.row.keep (Nat.le_of_eq hsz.symm) (fun g hg _ => hother g (h.nb g hg)), ?_, hl, h.mid.ob⟩, ⟨by rw [hsz]; exact hA, by rw [World.cell?_setCell_other _ _ _ _ (by simp)]; exact h.blk.c0, by rw [World.cell?_setCell_other _ _ _ _ (by simp)]; exact h.blk.c1, World.cell?_setCell_same _ _ _ h.blk.c2, by rw [World.cell?_setCell_other _ _ _ _ (by simp)]; exact h.blk.c3, by rw [World.cell?_setCell_other _ _ _ _ (by simp)]; exact h.blk.c4, fun i hi => by rw [World.frozen?_setCell]; exact h.blk.f i hi⟩, h.ne, h.nb, h.lo⟩
  obtain ⟨k, hk⟩ := h.mid.tp
  have hc : ∀ o, (W.setCell ⟨A, 2, none⟩ (.int .i64 z)).cell? ⟨T, o, none⟩ = W.cell? ⟨T, o, none⟩ := fun o => World.cell?_of_block (w := W) (a := ⟨T, o, none⟩) (hother T (Ne.symm h.ne))
  exact ⟨k, hk.row, hk.lo, by rw [hsz]; exact hk.hi, hk.bel.trans (Below.setCell (p := ⟨A, 2, none⟩) (Below.refl _ W) h.lo _), by rw [hc]; exact hk.c0, by rw [hc]; exact hk.c1, by rw [World.frozen?_setCell]; exact hk.fz, hk.kl, hk.lm⟩
theorem MidA.next {w0 : World} {T : Nat} {a : Option Addr} {len cap : Nat} {b : Option Addr} {c : Nat} {l : List Ar} {A : Nat} {e : Ar} {W : World} (h : MidA w0 T a len cap b c l A e W) (n : Int) (h1 : 1 ≤ n) (h2 : n ≤ 1000000) :
    Calls Try.prog 8 #[.pointer (some ⟨T, 0, none⟩), .int .i64 n] W fun e' w' => ∃ r : Int, 0 ≤ r ∧ r < n ∧ e' = .returned (.int .i64 r) ∧ MidA w0 T a len cap b c l A e w' :=
  (next_tp n _ _ _ _ _ _ h1 h2 h.mid.tp).mono fun _ _ ⟨r, h0, h1, he, hk, tp⟩ => ⟨r, h0, h1, he, h.tock hk.tock tp⟩
theorem MidA.odd {w0 : World} {T : Nat} {a : Option Addr} {len cap : Nat} {b : Option Addr} {c : Nat} {l : List Ar} {A : Nat} {e : Ar} {W : World} (h : MidA w0 T a len cap b c l A e W) :
    Calls Try.prog 9 #[.pointer (some ⟨T, 0, none⟩)] W fun e' w' => ∃ r : Int, e' = .returned (.int .i64 r) ∧ MidA w0 T a len cap b c l A e w' :=
  (odd_any _ _ _ _ _ _ h.mid.tp).mono fun _ _ ⟨r, _, _, he, hk, tp⟩ => ⟨r, he, h.tock hk tp⟩
theorem Mid.nextM {w0 wx : World} {T : Nat} {a : Option Addr} {len cap : Nat} {b : Option Addr} {c : Nat} {l : List Ar} {W : World} (h : Mid w0 wx T a len cap b c l W) (n : Int) (h1 : 1 ≤ n) (h2 : n ≤ 1000000) :
    Calls Try.prog 8 #[.pointer (some ⟨T, 0, none⟩), .int .i64 n] W fun e' w' => ∃ r : Int, 0 ≤ r ∧ r < n ∧ e' = .returned (.int .i64 r) ∧ Mid w0 wx T a len cap b c l w' :=
  (next_tp n _ _ _ _ _ _ h1 h2 h.tp).mono fun _ _ ⟨r, h0, h1, he, hk, tp⟩ => ⟨r, h0, h1, he, h.tick hk tp⟩

set_option maxRecDepth 100000 in
set_option maxHeartbeats 16000000 in
theorem calls_walk (a0 : Option Addr) (len0 cap0 : Nat) (w : World) (ha : ArgRow w a0 len0) (hl : len0 ≤ maxLen) :
    Calls Try.prog 3 #[.slice a0 len0 cap0] w (RetW (.bool true) w) := by
  have HT : Hid (TP w w.heap.size a0 len0 cap0 (w.alloc (.cells #[.slice a0 len0 cap0, .int .i64 0] 25))) := tape_start w a0 len0 cap0 ha hl
  have hT1 : w.heap.size < (w.alloc (.cells #[.slice a0 len0 cap0, .int .i64 0] 25)).heap.size := by simp
  go_enter Try.func3, Try.ntmps3
  go_wp2_with fail
  generalize w.alloc (.cells #[.slice a0 len0 cap0, .int .i64 0] 25) = w1 at *
  refine (drawn_any _ _ _ _ _ _ HT.out).mono ?_
  rintro e w2 ⟨b, c, l, rfl, hl8, hr, hk, tp⟩
  have HM : Hid (Mid w w w.heap.size a0 len0 cap0 b c l w2) := ⟨tp.bel, hr.mono (Nat.zero_le _), tp, Nat.le_refl _, fun g hg => by have := (hr.blk hg).1; omega⟩
  clear HT hr hk tp hT1
  go_wp2_with fail
  refine (HM.out.nextM 4 (by omega) (by omega)).mono ?_
  rintro e x1 ⟨r1, r10, r11, rfl, hm⟩
  replace HM := Lib.hid hm
  clear hm
  go_wp2_with fail
  refine (HM.out.nextM 7 (by omega) (by omega)).mono ?_
  rintro e x2 ⟨r2, r20, r21, rfl, hm⟩
  replace HM := Lib.hid hm
  clear hm
  go_wp2_with fail
  refine (HM.out.nextM 4 (by omega) (by omega)).mono ?_
  rintro e x3 ⟨r3, r30, r31, rfl, hm⟩
  replace HM := Lib.hid hm
  clear hm
  go_wp2_with fail
  refine (HM.out.nextM 2 (by omega) (by omega)).mono ?_
  rintro e x4 ⟨r4, r40, r41, rfl, hm⟩
  replace HM := Lib.hid hm
  clear hm
  go_wp2_with fail
  refine (HM.out.nextM 2 (by omega) (by omega)).mono ?_
  rintro e x5 ⟨r5, r50, r51, rfl, hm⟩
  replace HM := Lib.hid hm
  clear hm
  go_wp2_with fail
  have HA : Hid (MidA w w.heap.size a0 len0 cap0 b c l x5.heap.size ⟨r1, r2, 1 + r3, r4 == 0, r5 == 0⟩ (x5.alloc (Obj.cells #[Value.int IntKind.i64 r1, Value.int IntKind.i64 r2, Value.int IntKind.i64 (1 + r3), Value.bool (r4 == 0), Value.bool (r5 == 0)] 30))) :=
    ⟨HM.out.below ((Below.refl _ _).alloc (Nat.le_refl _) _), Blk.new x5 _ _ _ _ _, by have := HM.out.tp.hi; omega, fun g hg => by have := (HM.out.row.blk hg).2; omega, HM.out.bel.size⟩
  clear HM
  generalize x5.alloc (Obj.cells #[Value.int IntKind.i64 r1, Value.int IntKind.i64 r2, Value.int IntKind.i64 (1 + r3), Value.bool (r4 == 0), Value.bool (r5 == 0)] 30) = x6 at *
  generalize x5.heap.size = A at *
  generalize (r4 == 0) = wb at *
  generalize (r5 == 0) = ab at *
  generalize 1 + r3 = rf at *
  refine (HA.out.next 8 (by omega) (by omega)).mono ?_
  rintro e x7 ⟨r6, r60, r61, rfl, hm⟩
  replace HA := Lib.hid hm
  clear hm
  have hw3 : IntKind.i64.wrap (r6 - 1) = r6 - 1 := IntWalk.i64_in _ (by omega)
  go_wp2_with fail
  refine (HA.out.next 5 (by omega) (by omega)).mono ?_
  rintro e x8 ⟨r7, r70, r71, rfl, hm⟩
  replace HA := Lib.hid hm
  clear hm
  go_wp2_with fail
  refine (HA.out.next 9 (by omega) (by omega)).mono ?_
  rintro e x9 ⟨r8, r80, r81, rfl, hm⟩
  replace HA := Lib.hid hm
  clear hm
  generalize r6 - 1 = n0 at *
  generalize 1 + r7 = f0 at *
  go_upto_block 0 with fail
  go_cut [6, 7] (fun s6 s7 wx => ∃ (n f : Int) (e' : Ar), s6 = .int .i64 n ∧ s7 = .int .i64 f ∧ Hid (MidA w w.heap.size a0 len0 cap0 b c l A e' wx))
  case first =>
    by_cases h0 : r8 = 0
    · subst h0
      go_wp2_with fail
      refine HA.out.odd.mono ?_
      rintro e y1 ⟨z1, rfl, hm⟩
      replace HA := Lib.hid hm
      clear hm
      go_wp2_with fail
      refine HA.out.odd.mono ?_
      rintro e y2 ⟨z2, rfl, hm⟩
      replace HA := Lib.hid hm
      clear hm
      have k2 := HA.out.blk.c2; have f2 := HA.out.blk.f 2 (by omega)
      simp only at k2
      have HS := Lib.hid (HA.out.set2 z1)
      go_wp2_with fail
      go_meet
      exact ⟨_, _, _, rfl, rfl, HS⟩
    · have h0' : (r8 == 0) = false := by simpa using h0
      by_cases h1 : r8 = 1
      · subst h1
        clear h0
        go_wp2_with fail
        refine HA.out.odd.mono ?_
        rintro e y1 ⟨z1, rfl, hm⟩
        replace HA := Lib.hid hm
        clear hm
        have k1 := HA.out.blk.c1; have f1 := HA.out.blk.f 1 (by omega)
        simp only at k1
        have HS := Lib.hid (HA.out.set1 z1)
        go_wp2_with fail
        go_meet
        exact ⟨_, _, _, rfl, rfl, HS⟩
      · have h1' : (r8 == 1) = false := by simpa using h1
        by_cases h2 : r8 = 2
        · subst h2
          clear h0 h1
          go_wp2_with fail
          refine HA.out.odd.mono ?_
          rintro e y1 ⟨z1, rfl, hm⟩
          replace HA := Lib.hid hm
          clear hm
          go_wp2_with fail
          refine HA.out.odd.mono ?_
          rintro e y2 ⟨z2, rfl, hm⟩
          replace HA := Lib.hid hm
          clear hm
          have k0 := HA.out.blk.c0; have f0 := HA.out.blk.f 0 (by omega)
          simp only at k0
          have HS := Lib.hid (HA.out.set0 z1)
          go_wp2_with fail
          go_meet
          exact ⟨_, _, _, rfl, rfl, HS⟩
        · have h2' : (r8 == 2) = false := by simpa using h2
          clear h0 h1 h2
          go_wp2_with fail
          go_meet
          exact ⟨_, _, _, rfl, rfl, HA⟩
  case rest =>
    clear HA
    obtain ⟨n, f, e', rfl, rfl, HA⟩ := hcut
    have HMV := fun (W : World) (h : ARow 0 b c l W) => enter_any 0 b l c e' W h (by omega)
    have HRV := fun (W : World) (h : ARow 0 b c l W) => enterR_any 0 b l c e' W h (by omega) (Nat.zero_le _)
    have HML : Hid ((enterL l e').length ≤ 100) := by unfold Hid; have := enterL_len (l := l) (e := e'); omega
    generalize enterL l e' = my at *
    generalize enterE l e' = me at *
    unfold arVal at HMV HRV
    obtain ⟨ep, ea, ef, ew, ec⟩ := e'
    simp only at HMV HRV
    have HM1 := Lib.hid HMV; have HM2 := Lib.hid HRV
    clear HMV HRV
    have HF1 := Lib.hid (fun (W : World) (h : ARow 0 b c l W) => get_any 0 b l c ep ea W h (by omega))
    have HF2 := Lib.hid (fun (W : World) (h : ARow 0 b c l W) => getR_any 0 b l c ep ea W h (by omega))
    unfold arVal at HF1 HF2
    generalize optA (getV l ep ea) = fe at *
    generalize (getV l ep ea).isSome = fk at *
    obtain ⟨q0, q1, q2, q3, q4⟩ := fe
    simp only at HF1 HF2
    have HY1 := Lib.hid (fun (W : World) (h : ARow 0 b c l W) => young_any f 0 b l c W h (by omega))
    have HY2 := Lib.hid (fun (W : World) (h : ARow 0 b c l W) => youngR_any f 0 b l c W h (by omega))
    have hyl : (mapL l (youF f)).length ≤ 100 := by rw [mapL_len]; omega
    generalize mapL l (youF f) = yl at *
    generalize youB l f = yb at *
    have HZ1 := Lib.hid (fun (W : World) (h : ARow 0 b c l W) => zap_any ep ea n 0 b l c W h (by omega))
    have HZ2 := Lib.hid (fun (W : World) (h : ARow 0 b c l W) => zapR_any ep ea n 0 b l c W h (by omega))
    have hzl : (cutL l (zapB ep ea n)).length ≤ 100 := by have := cutL_len l (zapB ep ea n); omega
    generalize cutL l (zapB ep ea n) = zl at *
    have HO1 := Lib.hid (fun (W : World) (h : ARow 0 b c l W) => of_any f 0 b l c W h (by omega))
    have HO2 := Lib.hid (fun (W : World) (h : ARow 0 b c l W) => ofR_any f 0 b l c W h (by omega))
    have hol : (ofL l f).length ≤ 100 := by
      unfold ofL
      split
      · have := List.length_filter_le (frB f) l; omega
      · simp
    generalize ofL l f = ol at *
    have HD1 := Lib.hid (fun (W : World) (h : ARow 0 b c l W) => drop_any f 0 b l c W h (by omega))
    have HD2 := Lib.hid (fun (W : World) (h : ARow 0 b c l W) => dropR_any f 0 b l c W h (by omega))
    have hdl : (cutL l (frB f)).length ≤ 100 := by have := cutL_len l (frB f); omega
    generalize cutL l (frB f) = dl at *
    have HP1 := Lib.hid (fun (W : World) (h : ARow 0 b c l W) => protect_any f 0 b l c W h (by omega))
    have HP2 := Lib.hid (fun (W : World) (h : ARow 0 b c l W) => protR_any f 0 b l c W h (by omega))
    have hpl : (mapL l (proF f)).length ≤ 100 := by rw [mapL_len]; omega
    generalize mapL l (proF f) = pl at *
    have HC1 := Lib.hid (fun (W : World) (h : ARow 0 b c l W) => check_any 0 b l c W h (by omega))
    have HC2 := Lib.hid (fun (W : World) (h : ARow 0 b c l W) => checkR_any 0 b l c W h (by omega))
    generalize checkV l = ck at *
    have x0 := HA.out.blk.c0; have x1 := HA.out.blk.c1; have x2 := HA.out.blk.c2; have x3 := HA.out.blk.c3; have x4 := HA.out.blk.c4
    simp only at x0 x1 x2 x3 x4
    go_wp2_with fail
    refine (HM1.out _ HA.out.mid.row).mono ?_
    rintro e y1 ⟨b1, c1, rfl, hr1, hb⟩
    replace HA := Lib.hid (HA.out.below hb)
    have G1 := Lib.hid (hr1.mono (Nat.zero_le _))
    clear hr1 hb HM1 x0 x1 x2 x3 x4
    have x0 := HA.out.blk.c0; have x1 := HA.out.blk.c1; have x2 := HA.out.blk.c2; have x3 := HA.out.blk.c3; have x4 := HA.out.blk.c4
    simp only at x0 x1 x2 x3 x4
    go_wp2_with fail
    have hrx := HA.out.mid.row
    refine (HM2.out _ hrx).mono ?_
    rintro e y2 ⟨b2, c2, rfl, hr2, hb⟩
    replace HA := Lib.hid (HA.out.below hb)
    replace G1 := Lib.hid (G1.out.below hb)
    have G2 : Hid (ARow 0 b2 c2 my y2) := by
      rcases hr2 with h | ⟨rfl, rfl, rfl⟩
      · exact h.mono (Nat.zero_le _)
      · exact HA.out.mid.row
    clear hr2 hb HM2 hrx x0 x1 x2 x3 x4
    have x0 := HA.out.blk.c0; have x1 := HA.out.blk.c1; have x2 := HA.out.blk.c2; have x3 := HA.out.blk.c3; have x4 := HA.out.blk.c4
    simp only at x0 x1 x2 x3 x4
    go_wp2_with fail
    refine (HF1.out _ HA.out.mid.row).mono ?_
    rintro e y3 ⟨rfl, hb⟩
    replace HA := Lib.hid (HA.out.below hb)
    replace G1 := Lib.hid (G1.out.below hb)
    replace G2 := Lib.hid (G2.out.below hb)
    clear hb HF1 x0 x1 x2 x3 x4
    go_upto_region 15 with (fail)
    have B1 := Lib.hid (Blk.new y3 q0 q1 q2 q3 q4)
    have hb := (Below.refl y3.heap.size y3).alloc (Nat.le_refl _) (Obj.cells #[Value.int IntKind.i64 q0, Value.int IntKind.i64 q1, Value.int IntKind.i64 q2, Value.bool q3, Value.bool q4] 30)
    replace HA := Lib.hid (HA.out.below hb)
    replace G1 := Lib.hid (G1.out.below hb)
    replace G2 := Lib.hid (G2.out.below hb)
    clear hb
    have x0 := HA.out.blk.c0; have x1 := HA.out.blk.c1; have x2 := HA.out.blk.c2; have x3 := HA.out.blk.c3; have x4 := HA.out.blk.c4
    simp only at x0 x1 x2 x3 x4
    generalize y3.alloc (Obj.cells #[Value.int IntKind.i64 q0, Value.int IntKind.i64 q1, Value.int IntKind.i64 q2, Value.bool q3, Value.bool q4] 30) = y4 at *
    generalize y3.heap.size = P1 at *
    go_wp2_with fail
    refine (HF2.out _ HA.out.mid.row).mono ?_
    rintro e y5 ⟨rfl, hb⟩
    replace HA := Lib.hid (HA.out.below hb)
    replace G1 := Lib.hid (G1.out.below hb)
    replace G2 := Lib.hid (G2.out.below hb)
    replace B1 := Lib.hid (B1.out.below hb)
    clear hb HF2 x0 x1 x2 x3 x4
    go_wp2_with fail
    have B2 := Lib.hid (Blk.new y5 q0 q1 q2 q3 q4)
    have hb := (Below.refl y5.heap.size y5).alloc (Nat.le_refl _) (Obj.cells #[Value.int IntKind.i64 q0, Value.int IntKind.i64 q1, Value.int IntKind.i64 q2, Value.bool q3, Value.bool q4] 30)
    replace HA := Lib.hid (HA.out.below hb)
    replace G1 := Lib.hid (G1.out.below hb)
    replace G2 := Lib.hid (G2.out.below hb)
    replace B1 := Lib.hid (B1.out.below hb)
    clear hb
    generalize y5.alloc (Obj.cells #[Value.int IntKind.i64 q0, Value.int IntKind.i64 q1, Value.int IntKind.i64 q2, Value.bool q3, Value.bool q4] 30) = y6 at *
    generalize y5.heap.size = P2 at *
    refine (HY1.out _ HA.out.mid.row).mono ?_
    rintro e y7 ⟨b3, c3, rfl, hr3, hb⟩
    replace HA := Lib.hid (HA.out.below hb)
    replace G1 := Lib.hid (G1.out.below hb)
    replace G2 := Lib.hid (G2.out.below hb)
    replace B1 := Lib.hid (B1.out.below hb)
    replace B2 := Lib.hid (B2.out.below hb)
    have G3 := Lib.hid (hr3.mono (Nat.zero_le _))
    clear hr3 hb HY1
    go_wp2_with fail
    refine (HY2.out _ HA.out.mid.row).mono ?_
    rintro e y8 ⟨b4, c4, rfl, hr4, hb⟩
    replace HA := Lib.hid (HA.out.below hb)
    replace G1 := Lib.hid (G1.out.below hb)
    replace G2 := Lib.hid (G2.out.below hb)
    replace G3 := Lib.hid (G3.out.below hb)
    replace B1 := Lib.hid (B1.out.below hb)
    replace B2 := Lib.hid (B2.out.below hb)
    have G4 := Lib.hid hr4
    clear hr4 hb HY2
    go_wp2_with fail
    refine (HC1.out _ HA.out.mid.row).mono ?_
    rintro e v1 ⟨rfl, hb⟩
    replace HA := Lib.hid (HA.out.below hb)
    replace G1 := Lib.hid (G1.out.below hb)
    replace G2 := Lib.hid (G2.out.below hb)
    replace G3 := Lib.hid (G3.out.below hb)
    replace G4 := Lib.hid (G4.out.below hb)
    replace B1 := Lib.hid (B1.out.below hb)
    replace B2 := Lib.hid (B2.out.below hb)
    clear hb HC1
    go_wp2_with fail
    refine (HC2.out _ HA.out.mid.row).mono ?_
    rintro e v2 ⟨rfl, hb⟩
    replace HA := Lib.hid (HA.out.below hb)
    replace G1 := Lib.hid (G1.out.below hb)
    replace G2 := Lib.hid (G2.out.below hb)
    replace G3 := Lib.hid (G3.out.below hb)
    replace G4 := Lib.hid (G4.out.below hb)
    replace B1 := Lib.hid (B1.out.below hb)
    replace B2 := Lib.hid (B2.out.below hb)
    clear hb HC2
    have hml : my.length ≤ 100 := HML.out
    go_wp2_with fail
    refine (same_any _ _ b1 b2 my c1 c2 _ G1.out G2.out hml).mono ?_
    rintro e v3 ⟨rfl, hb⟩
    replace HA := Lib.hid (HA.out.below hb)
    replace G3 := Lib.hid (G3.out.below hb)
    replace G4 := Lib.hid (G4.out.below hb)
    replace B1 := Lib.hid (B1.out.below hb)
    replace B2 := Lib.hid (B2.out.below hb)
    clear hb G1 G2
    have m0 := B1.out.c0; have m1 := B1.out.c1; have m2 := B1.out.c2; have m3 := B1.out.c3; have m4 := B1.out.c4
    have n0 := B2.out.c0; have n1 := B2.out.c1; have n2 := B2.out.c2; have n3 := B2.out.c3; have n4 := B2.out.c4
    simp only at m0 m1 m2 m3 m4 n0 n1 n2 n3 n4
    go_wp2_with fail
    refine (same_any _ _ b3 b4 yl c3 c4 _ G3.out G4.out hyl).mono ?_
    rintro e v4 ⟨rfl, hb⟩
    replace HA := Lib.hid (HA.out.below hb)
    clear hb G3 G4 B1 B2 m0 m1 m2 m3 m4 n0 n1 n2 n3 n4
    go_upto_region 19 with (fail)
    have x0 := HA.out.blk.c0; have x1 := HA.out.blk.c1
    simp only at x0 x1
    replace HA := Lib.hid (HA.out.below (Below.refl _ _).drew)
    refine wp_region_held_drew (S := fun w' => w'.cell? ⟨A, 0, none⟩ = some (.int .i64 ep) ∧ w'.cell? ⟨A, 1, none⟩ = some (.int .i64 ea)) (by kernel_rfl) (by (try dsimp only); go_keep) (fun hHeld => ?_)
    refine wpAnyH_take (i := 0) (oi := { dst := some 144, op := Op.move (Operand.tmp 20), type := 4, pos := "law.go:59", after := #[], guard := none }) (v := ?_) rfl (by kernel_rfl) (by kernel_rfl) (by kernel_rfl) (fun _ _ _ h => h) (Or.inl ⟨by rfl, ?_⟩) (by assumption) ?_
    rotate_left
    focus ((intro w hSw; (try dsimp only at hSw); go_simp) <;> (try with_reducible rfl))
    try simp only [Act.put, List.setIfInBounds_toArray, List.set_cons_zero, List.set_cons_succ]
    refine wpAnyH_take (i := 1) (oi := { dst := some 145, op := Op.move (Operand.tmp 144), type := 4, pos := "law.go:59", after := #[{ on := 0, ground := Ground.data }], guard := none }) (v := ?_) rfl (by kernel_rfl) (by kernel_rfl) (by kernel_rfl) (fun _ _ _ h => h) (Or.inl ⟨by rfl, ?_⟩) (by assumption) ?_
    rotate_left
    focus ((intro w hSw; (try dsimp only at hSw); go_simp) <;> (try with_reducible rfl))
    try simp only [Act.put, List.setIfInBounds_toArray, List.set_cons_zero, List.set_cons_succ]
    refine wpAnyH_take (i := 2) (oi := { dst := some 146, op := Op.move (Operand.tmp 4), type := 26, pos := "law.go:59", after := #[{ on := 1, ground := Ground.guard }], guard := some (1, true) }) (v := ?_) rfl (by kernel_rfl) (by kernel_rfl) (by kernel_rfl) (fun _ _ _ h => h) (Or.inl ⟨by rfl, ?_⟩) (by assumption) ?_
    rotate_left
    focus ((intro w hSw; (try dsimp only at hSw); go_simp) <;> (try with_reducible rfl))
    try simp only [Act.put, List.setIfInBounds_toArray, List.set_cons_zero, List.set_cons_succ]
    refine wpAnyH_take (i := 3) (oi := { dst := some 147, op := Op.fieldAddr 30 (Operand.tmp 5) 0, type := 0, pos := "law.go:59", after := #[{ on := 1, ground := Ground.guard }], guard := some (1, true) }) (v := ?_) rfl (by kernel_rfl) (by kernel_rfl) (by kernel_rfl) (fun _ _ _ h => h) (Or.inl ⟨by rfl, ?_⟩) (by assumption) ?_
    rotate_left
    focus ((intro w hSw; (try dsimp only at hSw); go_simp) <;> (try with_reducible rfl))
    try simp only [Act.put, List.setIfInBounds_toArray, List.set_cons_zero, List.set_cons_succ]
    refine wpAnyH_take (i := 4) (oi := { dst := some 148, op := Op.load 3 (Operand.tmp 147), type := 3, pos := "law.go:59", after := #[{ on := 3, ground := Ground.data }, { on := 1, ground := Ground.guard }], guard := some (1, true) }) (v := ?_) rfl (by kernel_rfl) (by kernel_rfl) (by kernel_rfl) (fun _ _ _ h => h) (Or.inl ⟨by rfl, ?_⟩) (by assumption) ?_
    rotate_left
    focus ((intro w hSw; (try dsimp only at hSw); go_simp) <;> (try with_reducible rfl))
    try simp only [Act.put, List.setIfInBounds_toArray, List.set_cons_zero, List.set_cons_succ]
    refine wpAnyH_take (i := 5) (oi := { dst := some 149, op := Op.fieldAddr 30 (Operand.tmp 5) 1, type := 0, pos := "law.go:59", after := #[{ on := 1, ground := Ground.guard }], guard := some (1, true) }) (v := ?_) rfl (by kernel_rfl) (by kernel_rfl) (by kernel_rfl) (fun _ _ _ h => h) (Or.inl ⟨by rfl, ?_⟩) (by assumption) ?_
    rotate_left
    focus ((intro w hSw; (try dsimp only at hSw); go_simp) <;> (try with_reducible rfl))
    try simp only [Act.put, List.setIfInBounds_toArray, List.set_cons_zero, List.set_cons_succ]
    refine wpAnyH_take (i := 6) (oi := { dst := some 150, op := Op.load 3 (Operand.tmp 149), type := 3, pos := "law.go:59", after := #[{ on := 5, ground := Ground.data }, { on := 1, ground := Ground.guard }], guard := some (1, true) }) (v := ?_) rfl (by kernel_rfl) (by kernel_rfl) (by kernel_rfl) (fun _ _ _ h => h) (Or.inl ⟨by rfl, ?_⟩) (by assumption) ?_
    rotate_left
    focus ((intro w hSw; (try dsimp only at hSw); go_simp) <;> (try with_reducible rfl))
    try simp only [Act.put, List.setIfInBounds_toArray, List.set_cons_zero, List.set_cons_succ]
    refine wpAnyH_take (i := 7) (oi := { dst := some 151, op := Op.move (Operand.tmp 6), type := 3, pos := "law.go:59", after := #[{ on := 1, ground := Ground.guard }], guard := some (1, true) }) (v := ?_) rfl (by kernel_rfl) (by kernel_rfl) (by kernel_rfl) (fun _ _ _ h => h) (Or.inl ⟨by rfl, ?_⟩) (by assumption) ?_
    rotate_left
    focus ((intro w hSw; (try dsimp only at hSw); go_simp) <;> (try with_reducible rfl))
    try simp only [Act.put, List.setIfInBounds_toArray, List.set_cons_zero, List.set_cons_succ]
    refine wpAnyH_take (i := 9) (oi := { dst := some 153, op := Op.move (Operand.tmp 4), type := 26, pos := "law.go:59", after := #[{ on := 1, ground := Ground.guard }], guard := some (1, true) }) (v := ?_) rfl (by kernel_rfl) (by kernel_rfl) (by kernel_rfl) (fun _ _ _ h => h) (Or.inl ⟨by rfl, ?_⟩) (by assumption) ?_
    rotate_left
    focus ((intro w hSw; (try dsimp only at hSw); go_simp) <;> (try with_reducible rfl))
    try simp only [Act.put, List.setIfInBounds_toArray, List.set_cons_zero, List.set_cons_succ]
    refine wpAnyH_take (i := 10) (oi := { dst := some 154, op := Op.fieldAddr 30 (Operand.tmp 5) 0, type := 0, pos := "law.go:59", after := #[{ on := 1, ground := Ground.guard }], guard := some (1, true) }) (v := ?_) rfl (by kernel_rfl) (by kernel_rfl) (by kernel_rfl) (fun _ _ _ h => h) (Or.inl ⟨by rfl, ?_⟩) (by assumption) ?_
    rotate_left
    focus ((intro w hSw; (try dsimp only at hSw); go_simp) <;> (try with_reducible rfl))
    try simp only [Act.put, List.setIfInBounds_toArray, List.set_cons_zero, List.set_cons_succ]
    refine wpAnyH_take (i := 11) (oi := { dst := some 155, op := Op.load 3 (Operand.tmp 154), type := 3, pos := "law.go:59", after := #[{ on := 10, ground := Ground.data }, { on := 1, ground := Ground.guard }], guard := some (1, true) }) (v := ?_) rfl (by kernel_rfl) (by kernel_rfl) (by kernel_rfl) (fun _ _ _ h => h) (Or.inl ⟨by rfl, ?_⟩) (by assumption) ?_
    rotate_left
    focus ((intro w hSw; (try dsimp only at hSw); go_simp) <;> (try with_reducible rfl))
    try simp only [Act.put, List.setIfInBounds_toArray, List.set_cons_zero, List.set_cons_succ]
    refine wpAnyH_take (i := 12) (oi := { dst := some 156, op := Op.fieldAddr 30 (Operand.tmp 5) 1, type := 0, pos := "law.go:59", after := #[{ on := 1, ground := Ground.guard }], guard := some (1, true) }) (v := ?_) rfl (by kernel_rfl) (by kernel_rfl) (by kernel_rfl) (fun _ _ _ h => h) (Or.inl ⟨by rfl, ?_⟩) (by assumption) ?_
    rotate_left
    focus ((intro w hSw; (try dsimp only at hSw); go_simp) <;> (try with_reducible rfl))
    try simp only [Act.put, List.setIfInBounds_toArray, List.set_cons_zero, List.set_cons_succ]
    refine wpAnyH_take (i := 13) (oi := { dst := some 157, op := Op.load 3 (Operand.tmp 156), type := 3, pos := "law.go:59", after := #[{ on := 12, ground := Ground.data }, { on := 1, ground := Ground.guard }], guard := some (1, true) }) (v := ?_) rfl (by kernel_rfl) (by kernel_rfl) (by kernel_rfl) (fun _ _ _ h => h) (Or.inl ⟨by rfl, ?_⟩) (by assumption) ?_
    rotate_left
    focus ((intro w hSw; (try dsimp only at hSw); go_simp) <;> (try with_reducible rfl))
    try simp only [Act.put, List.setIfInBounds_toArray, List.set_cons_zero, List.set_cons_succ]
    refine wpAnyH_take (i := 14) (oi := { dst := some 158, op := Op.move (Operand.tmp 6), type := 3, pos := "law.go:59", after := #[{ on := 1, ground := Ground.guard }], guard := some (1, true) }) (v := ?_) rfl (by kernel_rfl) (by kernel_rfl) (by kernel_rfl) (fun _ _ _ h => h) (Or.inl ⟨by rfl, ?_⟩) (by assumption) ?_
    rotate_left
    focus ((intro w hSw; (try dsimp only at hSw); go_simp) <;> (try with_reducible rfl))
    try simp only [Act.put, List.setIfInBounds_toArray, List.set_cons_zero, List.set_cons_succ]
    refine wpAnyH_ready (rs := [8]) (by kernel_rfl) (by simp) ?_
    refine AllReadyH.cons (o := { dst := some 152, op := Op.call { callee := Callee.value (Operand.func 19), args := #[Operand.tmp 146, Operand.tmp 148, Operand.tmp 150, Operand.tmp 151], argTypes := #[26, 3, 3, 3] }, type := 26, pos := "law.go:59", after := #[{ on := 2, ground := Ground.data }, { on := 4, ground := Ground.data }, { on := 6, ground := Ground.data }, { on := 7, ground := Ground.data }, { on := 1, ground := Ground.chain }, { on := 1, ground := Ground.guard }], guard := some (1, true) }) rfl (fun K hK => ?_) AllReadyH.nil
    go_simp
    (first | (go_at_call 19; refine (HZ1.out _ HA.out.mid.row).mono ?_; rintro e zaw ⟨zab, zac, rfl, zar, hb⟩; replace HA := Lib.hid (HA.out.below hb); have zaR := Lib.hid (zar.mono (Nat.zero_le _)); have xza0 := HA.out.blk.c0; have xza1 := HA.out.blk.c1; simp only at xza0 xza1; clear hb zar))
    go_wp2_with fail
    refine hK.out _ _ (by (try dsimp only); go_keep) (fun hHeld => ?_)
    clear hK K
    try simp only [Act.put, List.setIfInBounds_toArray, List.set_cons_zero, List.set_cons_succ]
    refine wpAnyH_ready (rs := [15]) (by kernel_rfl) (by simp) ?_
    refine AllReadyH.cons (o := { dst := some 159, op := Op.call { callee := Callee.value (Operand.func 20), args := #[Operand.tmp 153, Operand.tmp 155, Operand.tmp 157, Operand.tmp 158], argTypes := #[26, 3, 3, 3] }, type := 26, pos := "law.go:59", after := #[{ on := 9, ground := Ground.data }, { on := 11, ground := Ground.data }, { on := 13, ground := Ground.data }, { on := 14, ground := Ground.data }, { on := 8, ground := Ground.chain }, { on := 1, ground := Ground.guard }], guard := some (1, true) }) rfl (fun K hK => ?_) AllReadyH.nil
    go_simp
    (first | (go_at_call 20; refine (HZ2.out _ HA.out.mid.row).mono ?_; rintro e zbw ⟨zbb, zbc, rfl, zbr, hb⟩; replace HA := Lib.hid (HA.out.below hb); replace zaR := Lib.hid (zaR.out.below hb); have zbR := Lib.hid zbr; have xzb0 := HA.out.blk.c0; have xzb1 := HA.out.blk.c1; simp only at xzb0 xzb1; clear hb zbr))
    go_wp2_with fail
    refine hK.out _ _ (by (try dsimp only); go_keep) (fun hHeld => ?_)
    clear hK K
    try simp only [Act.put, List.setIfInBounds_toArray, List.set_cons_zero, List.set_cons_succ]
    refine wpAnyH_ready (rs := [16]) (by kernel_rfl) (by simp) ?_
    refine AllReadyH.cons (o := { dst := some 160, op := Op.call { callee := Callee.value (Operand.func 18), args := #[Operand.tmp 152, Operand.tmp 159], argTypes := #[26, 26] }, type := 4, pos := "law.go:59", after := #[{ on := 8, ground := Ground.data }, { on := 15, ground := Ground.data }, { on := 15, ground := Ground.chain }, { on := 1, ground := Ground.guard }], guard := some (1, true) }) rfl (fun K hK => ?_) AllReadyH.nil
    go_simp
    (first | (go_at_call 18; refine (same_any 0 0 zab zbb zl zac zbc _ zaR.out zbR.out hzl).mono ?_; rintro e zcw ⟨rfl, hb⟩; replace HA := Lib.hid (HA.out.below hb); have xzc0 := HA.out.blk.c0; have xzc1 := HA.out.blk.c1; simp only at xzc0 xzc1; clear hb zaR zbR))
    go_wp2_with fail
    refine hK.out _ _ (by (try dsimp only); go_keep) (fun hHeld => ?_)
    clear hK K
    try simp only [Act.put, List.setIfInBounds_toArray, List.set_cons_zero, List.set_cons_succ]
    refine wpAnyH_take (i := 17) (oi := { dst := some 161, op := Op.pick (Operand.tmp 145) (Operand.tmp 160) (Operand.const (Value.bool false)), type := 4, pos := "law.go:59", after := #[{ on := 1, ground := Ground.data }, { on := 16, ground := Ground.data }], guard := none }) (v := ?_) rfl (by kernel_rfl) (by kernel_rfl) (by kernel_rfl) (fun _ _ _ h => h) (Or.inl ⟨by rfl, ?_⟩) (by assumption) ?_
    rotate_left
    focus ((intro w hSw; (try dsimp only at hSw); go_simp) <;> (try with_reducible rfl))
    try simp only [Act.put, List.setIfInBounds_toArray, List.set_cons_zero, List.set_cons_succ]
    refine wpAnyH_take (i := 18) (oi := { dst := some 162, op := Op.move (Operand.tmp 161), type := 4, pos := "law.go:59", after := #[{ on := 17, ground := Ground.data }, { on := 16, ground := Ground.chain }], guard := none }) (v := ?_) rfl (by kernel_rfl) (by kernel_rfl) (by kernel_rfl) (fun _ _ _ h => h) (Or.inl ⟨by rfl, ?_⟩) (by assumption) ?_
    rotate_left
    focus ((intro w hSw; (try dsimp only at hSw); go_simp) <;> (try with_reducible rfl))
    try simp only [Act.put, List.setIfInBounds_toArray, List.set_cons_zero, List.set_cons_succ]
    refine wpAnyH_take (i := 19) (oi := { dst := some 163, op := Op.move (Operand.tmp 4), type := 26, pos := "law.go:59", after := #[{ on := 18, ground := Ground.guard }], guard := some (18, true) }) (v := ?_) rfl (by kernel_rfl) (by kernel_rfl) (by kernel_rfl) (fun _ _ _ h => h) (Or.inl ⟨by rfl, ?_⟩) (by assumption) ?_
    rotate_left
    focus ((intro w hSw; (try dsimp only at hSw); go_simp) <;> (try with_reducible rfl))
    try simp only [Act.put, List.setIfInBounds_toArray, List.set_cons_zero, List.set_cons_succ]
    refine wpAnyH_take (i := 20) (oi := { dst := some 164, op := Op.move (Operand.tmp 7), type := 3, pos := "law.go:59", after := #[{ on := 18, ground := Ground.guard }], guard := some (18, true) }) (v := ?_) rfl (by kernel_rfl) (by kernel_rfl) (by kernel_rfl) (fun _ _ _ h => h) (Or.inl ⟨by rfl, ?_⟩) (by assumption) ?_
    rotate_left
    focus ((intro w hSw; (try dsimp only at hSw); go_simp) <;> (try with_reducible rfl))
    try simp only [Act.put, List.setIfInBounds_toArray, List.set_cons_zero, List.set_cons_succ]
    refine wpAnyH_take (i := 22) (oi := { dst := some 166, op := Op.move (Operand.tmp 4), type := 26, pos := "law.go:59", after := #[{ on := 18, ground := Ground.guard }], guard := some (18, true) }) (v := ?_) rfl (by kernel_rfl) (by kernel_rfl) (by kernel_rfl) (fun _ _ _ h => h) (Or.inl ⟨by rfl, ?_⟩) (by assumption) ?_
    rotate_left
    focus ((intro w hSw; (try dsimp only at hSw); go_simp) <;> (try with_reducible rfl))
    try simp only [Act.put, List.setIfInBounds_toArray, List.set_cons_zero, List.set_cons_succ]
    refine wpAnyH_take (i := 23) (oi := { dst := some 167, op := Op.move (Operand.tmp 7), type := 3, pos := "law.go:59", after := #[{ on := 18, ground := Ground.guard }], guard := some (18, true) }) (v := ?_) rfl (by kernel_rfl) (by kernel_rfl) (by kernel_rfl) (fun _ _ _ h => h) (Or.inl ⟨by rfl, ?_⟩) (by assumption) ?_
    rotate_left
    focus ((intro w hSw; (try dsimp only at hSw); go_simp) <;> (try with_reducible rfl))
    try simp only [Act.put, List.setIfInBounds_toArray, List.set_cons_zero, List.set_cons_succ]
    refine wpAnyH_ready (rs := [21]) (by kernel_rfl) (by simp) ?_
    refine AllReadyH.cons (o := { dst := some 165, op := Op.call { callee := Callee.value (Operand.func 21), args := #[Operand.tmp 163, Operand.tmp 164], argTypes := #[26, 3] }, type := 26, pos := "law.go:59", after := #[{ on := 19, ground := Ground.data }, { on := 20, ground := Ground.data }, { on := 18, ground := Ground.chain }, { on := 18, ground := Ground.guard }], guard := some (18, true) }) rfl (fun K hK => ?_) AllReadyH.nil
    go_simp
    (first | (go_at_call 21; refine (HO1.out _ HA.out.mid.row).mono ?_; rintro e oaw ⟨oab, oac, rfl, oar, hb⟩; replace HA := Lib.hid (HA.out.below hb); have oaR := Lib.hid (oar.mono (Nat.zero_le _)); have xoa0 := HA.out.blk.c0; have xoa1 := HA.out.blk.c1; simp only at xoa0 xoa1; clear hb oar))
    go_wp2_with fail
    refine hK.out _ _ (by (try dsimp only); go_keep) (fun hHeld => ?_)
    clear hK K
    try simp only [Act.put, List.setIfInBounds_toArray, List.set_cons_zero, List.set_cons_succ]
    refine wpAnyH_ready (rs := [24]) (by kernel_rfl) (by simp) ?_
    refine AllReadyH.cons (o := { dst := some 168, op := Op.call { callee := Callee.value (Operand.func 22), args := #[Operand.tmp 166, Operand.tmp 167], argTypes := #[26, 3] }, type := 26, pos := "law.go:59", after := #[{ on := 22, ground := Ground.data }, { on := 23, ground := Ground.data }, { on := 21, ground := Ground.chain }, { on := 18, ground := Ground.guard }], guard := some (18, true) }) rfl (fun K hK => ?_) AllReadyH.nil
    go_simp
    (first | (go_at_call 22; refine (HO2.out _ HA.out.mid.row).mono ?_; rintro e obw ⟨obb, obc, rfl, obr, hb⟩; replace HA := Lib.hid (HA.out.below hb); replace oaR := Lib.hid (oaR.out.below hb); have obR := Lib.hid obr; have xob0 := HA.out.blk.c0; have xob1 := HA.out.blk.c1; simp only at xob0 xob1; clear hb obr))
    go_wp2_with fail
    refine hK.out _ _ (by (try dsimp only); go_keep) (fun hHeld => ?_)
    clear hK K
    try simp only [Act.put, List.setIfInBounds_toArray, List.set_cons_zero, List.set_cons_succ]
    refine wpAnyH_ready (rs := [25]) (by kernel_rfl) (by simp) ?_
    refine AllReadyH.cons (o := { dst := some 169, op := Op.call { callee := Callee.value (Operand.func 18), args := #[Operand.tmp 165, Operand.tmp 168], argTypes := #[26, 26] }, type := 4, pos := "law.go:59", after := #[{ on := 21, ground := Ground.data }, { on := 24, ground := Ground.data }, { on := 24, ground := Ground.chain }, { on := 18, ground := Ground.guard }], guard := some (18, true) }) rfl (fun K hK => ?_) AllReadyH.nil
    go_simp
    (first | (go_at_call 18; refine (same_any 0 0 oab obb ol oac obc _ oaR.out obR.out hol).mono ?_; rintro e ocw ⟨rfl, hb⟩; replace HA := Lib.hid (HA.out.below hb); have xoc0 := HA.out.blk.c0; have xoc1 := HA.out.blk.c1; simp only at xoc0 xoc1; clear hb oaR obR))
    go_wp2_with fail
    refine hK.out _ _ (by (try dsimp only); go_keep) (fun hHeld => ?_)
    clear hK K
    try simp only [Act.put, List.setIfInBounds_toArray, List.set_cons_zero, List.set_cons_succ]
    refine wpAnyH_take (i := 26) (oi := { dst := some 170, op := Op.pick (Operand.tmp 162) (Operand.tmp 169) (Operand.const (Value.bool false)), type := 4, pos := "law.go:59", after := #[{ on := 18, ground := Ground.data }, { on := 25, ground := Ground.data }], guard := none }) (v := ?_) rfl (by kernel_rfl) (by kernel_rfl) (by kernel_rfl) (fun _ _ _ h => h) (Or.inl ⟨by rfl, ?_⟩) (by assumption) ?_
    rotate_left
    focus ((intro w hSw; (try dsimp only at hSw); go_simp) <;> (try with_reducible rfl))
    try simp only [Act.put, List.setIfInBounds_toArray, List.set_cons_zero, List.set_cons_succ]
    refine wpAnyH_take (i := 27) (oi := { dst := some 171, op := Op.move (Operand.tmp 170), type := 4, pos := "law.go:59", after := #[{ on := 26, ground := Ground.data }, { on := 25, ground := Ground.chain }], guard := none }) (v := ?_) rfl (by kernel_rfl) (by kernel_rfl) (by kernel_rfl) (fun _ _ _ h => h) (Or.inl ⟨by rfl, ?_⟩) (by assumption) ?_
    rotate_left
    focus ((intro w hSw; (try dsimp only at hSw); go_simp) <;> (try with_reducible rfl))
    try simp only [Act.put, List.setIfInBounds_toArray, List.set_cons_zero, List.set_cons_succ]
    refine wpAnyH_take (i := 28) (oi := { dst := some 172, op := Op.move (Operand.tmp 4), type := 26, pos := "law.go:59", after := #[{ on := 27, ground := Ground.guard }], guard := some (27, true) }) (v := ?_) rfl (by kernel_rfl) (by kernel_rfl) (by kernel_rfl) (fun _ _ _ h => h) (Or.inl ⟨by rfl, ?_⟩) (by assumption) ?_
    rotate_left
    focus ((intro w hSw; (try dsimp only at hSw); go_simp) <;> (try with_reducible rfl))
    try simp only [Act.put, List.setIfInBounds_toArray, List.set_cons_zero, List.set_cons_succ]
    refine wpAnyH_take (i := 29) (oi := { dst := some 173, op := Op.move (Operand.tmp 7), type := 3, pos := "law.go:59", after := #[{ on := 27, ground := Ground.guard }], guard := some (27, true) }) (v := ?_) rfl (by kernel_rfl) (by kernel_rfl) (by kernel_rfl) (fun _ _ _ h => h) (Or.inl ⟨by rfl, ?_⟩) (by assumption) ?_
    rotate_left
    focus ((intro w hSw; (try dsimp only at hSw); go_simp) <;> (try with_reducible rfl))
    try simp only [Act.put, List.setIfInBounds_toArray, List.set_cons_zero, List.set_cons_succ]
    refine wpAnyH_take (i := 31) (oi := { dst := some 175, op := Op.move (Operand.tmp 4), type := 26, pos := "law.go:59", after := #[{ on := 27, ground := Ground.guard }], guard := some (27, true) }) (v := ?_) rfl (by kernel_rfl) (by kernel_rfl) (by kernel_rfl) (fun _ _ _ h => h) (Or.inl ⟨by rfl, ?_⟩) (by assumption) ?_
    rotate_left
    focus ((intro w hSw; (try dsimp only at hSw); go_simp) <;> (try with_reducible rfl))
    try simp only [Act.put, List.setIfInBounds_toArray, List.set_cons_zero, List.set_cons_succ]
    refine wpAnyH_take (i := 32) (oi := { dst := some 176, op := Op.move (Operand.tmp 7), type := 3, pos := "law.go:59", after := #[{ on := 27, ground := Ground.guard }], guard := some (27, true) }) (v := ?_) rfl (by kernel_rfl) (by kernel_rfl) (by kernel_rfl) (fun _ _ _ h => h) (Or.inl ⟨by rfl, ?_⟩) (by assumption) ?_
    rotate_left
    focus ((intro w hSw; (try dsimp only at hSw); go_simp) <;> (try with_reducible rfl))
    try simp only [Act.put, List.setIfInBounds_toArray, List.set_cons_zero, List.set_cons_succ]
    refine wpAnyH_ready (rs := [30]) (by kernel_rfl) (by simp) ?_
    refine AllReadyH.cons (o := { dst := some 174, op := Op.call { callee := Callee.value (Operand.func 23), args := #[Operand.tmp 172, Operand.tmp 173], argTypes := #[26, 3] }, type := 26, pos := "law.go:59", after := #[{ on := 28, ground := Ground.data }, { on := 29, ground := Ground.data }, { on := 27, ground := Ground.chain }, { on := 27, ground := Ground.guard }], guard := some (27, true) }) rfl (fun K hK => ?_) AllReadyH.nil
    go_simp
    (first | (go_at_call 23; refine (HD1.out _ HA.out.mid.row).mono ?_; rintro e daw ⟨dab, dac, rfl, dar, hb⟩; replace HA := Lib.hid (HA.out.below hb); have daR := Lib.hid (dar.mono (Nat.zero_le _)); have xda0 := HA.out.blk.c0; have xda1 := HA.out.blk.c1; simp only at xda0 xda1; clear hb dar))
    go_wp2_with fail
    refine hK.out _ _ (by (try dsimp only); go_keep) (fun hHeld => ?_)
    clear hK K
    try simp only [Act.put, List.setIfInBounds_toArray, List.set_cons_zero, List.set_cons_succ]
    refine wpAnyH_ready (rs := [33]) (by kernel_rfl) (by simp) ?_
    refine AllReadyH.cons (o := { dst := some 177, op := Op.call { callee := Callee.value (Operand.func 24), args := #[Operand.tmp 175, Operand.tmp 176], argTypes := #[26, 3] }, type := 26, pos := "law.go:59", after := #[{ on := 31, ground := Ground.data }, { on := 32, ground := Ground.data }, { on := 30, ground := Ground.chain }, { on := 27, ground := Ground.guard }], guard := some (27, true) }) rfl (fun K hK => ?_) AllReadyH.nil
    go_simp
    (first | (go_at_call 24; refine (HD2.out _ HA.out.mid.row).mono ?_; rintro e dbw ⟨dbb, dbc, rfl, dbr, hb⟩; replace HA := Lib.hid (HA.out.below hb); replace daR := Lib.hid (daR.out.below hb); have dbR := Lib.hid dbr; have xdb0 := HA.out.blk.c0; have xdb1 := HA.out.blk.c1; simp only at xdb0 xdb1; clear hb dbr))
    go_wp2_with fail
    refine hK.out _ _ (by (try dsimp only); go_keep) (fun hHeld => ?_)
    clear hK K
    try simp only [Act.put, List.setIfInBounds_toArray, List.set_cons_zero, List.set_cons_succ]
    refine wpAnyH_ready (rs := [34]) (by kernel_rfl) (by simp) ?_
    refine AllReadyH.cons (o := { dst := some 178, op := Op.call { callee := Callee.value (Operand.func 18), args := #[Operand.tmp 174, Operand.tmp 177], argTypes := #[26, 26] }, type := 4, pos := "law.go:59", after := #[{ on := 30, ground := Ground.data }, { on := 33, ground := Ground.data }, { on := 33, ground := Ground.chain }, { on := 27, ground := Ground.guard }], guard := some (27, true) }) rfl (fun K hK => ?_) AllReadyH.nil
    go_simp
    (first | (go_at_call 18; refine (same_any 0 0 dab dbb dl dac dbc _ daR.out dbR.out hdl).mono ?_; rintro e dcw ⟨rfl, hb⟩; replace HA := Lib.hid (HA.out.below hb); have xdc0 := HA.out.blk.c0; have xdc1 := HA.out.blk.c1; simp only at xdc0 xdc1; clear hb daR dbR))
    go_wp2_with fail
    refine hK.out _ _ (by (try dsimp only); go_keep) (fun hHeld => ?_)
    clear hK K
    try simp only [Act.put, List.setIfInBounds_toArray, List.set_cons_zero, List.set_cons_succ]
    refine wpAnyH_take (i := 35) (oi := { dst := some 179, op := Op.pick (Operand.tmp 171) (Operand.tmp 178) (Operand.const (Value.bool false)), type := 4, pos := "law.go:59", after := #[{ on := 27, ground := Ground.data }, { on := 34, ground := Ground.data }], guard := none }) (v := ?_) rfl (by kernel_rfl) (by kernel_rfl) (by kernel_rfl) (fun _ _ _ h => h) (Or.inl ⟨by rfl, ?_⟩) (by assumption) ?_
    rotate_left
    focus ((intro w hSw; (try dsimp only at hSw); go_simp) <;> (try with_reducible rfl))
    try simp only [Act.put, List.setIfInBounds_toArray, List.set_cons_zero, List.set_cons_succ]
    refine wpAnyH_take (i := 36) (oi := { dst := some 180, op := Op.move (Operand.tmp 179), type := 4, pos := "law.go:59", after := #[{ on := 35, ground := Ground.data }, { on := 34, ground := Ground.chain }], guard := none }) (v := ?_) rfl (by kernel_rfl) (by kernel_rfl) (by kernel_rfl) (fun _ _ _ h => h) (Or.inl ⟨by rfl, ?_⟩) (by assumption) ?_
    rotate_left
    focus ((intro w hSw; (try dsimp only at hSw); go_simp) <;> (try with_reducible rfl))
    try simp only [Act.put, List.setIfInBounds_toArray, List.set_cons_zero, List.set_cons_succ]
    refine wpAnyH_take (i := 37) (oi := { dst := some 181, op := Op.move (Operand.tmp 4), type := 26, pos := "law.go:59", after := #[{ on := 36, ground := Ground.guard }], guard := some (36, true) }) (v := ?_) rfl (by kernel_rfl) (by kernel_rfl) (by kernel_rfl) (fun _ _ _ h => h) (Or.inl ⟨by rfl, ?_⟩) (by assumption) ?_
    rotate_left
    focus ((intro w hSw; (try dsimp only at hSw); go_simp) <;> (try with_reducible rfl))
    try simp only [Act.put, List.setIfInBounds_toArray, List.set_cons_zero, List.set_cons_succ]
    refine wpAnyH_take (i := 38) (oi := { dst := some 182, op := Op.move (Operand.tmp 7), type := 3, pos := "law.go:59", after := #[{ on := 36, ground := Ground.guard }], guard := some (36, true) }) (v := ?_) rfl (by kernel_rfl) (by kernel_rfl) (by kernel_rfl) (fun _ _ _ h => h) (Or.inl ⟨by rfl, ?_⟩) (by assumption) ?_
    rotate_left
    focus ((intro w hSw; (try dsimp only at hSw); go_simp) <;> (try with_reducible rfl))
    try simp only [Act.put, List.setIfInBounds_toArray, List.set_cons_zero, List.set_cons_succ]
    refine wpAnyH_take (i := 40) (oi := { dst := some 184, op := Op.move (Operand.tmp 4), type := 26, pos := "law.go:59", after := #[{ on := 36, ground := Ground.guard }], guard := some (36, true) }) (v := ?_) rfl (by kernel_rfl) (by kernel_rfl) (by kernel_rfl) (fun _ _ _ h => h) (Or.inl ⟨by rfl, ?_⟩) (by assumption) ?_
    rotate_left
    focus ((intro w hSw; (try dsimp only at hSw); go_simp) <;> (try with_reducible rfl))
    try simp only [Act.put, List.setIfInBounds_toArray, List.set_cons_zero, List.set_cons_succ]
    refine wpAnyH_take (i := 41) (oi := { dst := some 185, op := Op.move (Operand.tmp 7), type := 3, pos := "law.go:59", after := #[{ on := 36, ground := Ground.guard }], guard := some (36, true) }) (v := ?_) rfl (by kernel_rfl) (by kernel_rfl) (by kernel_rfl) (fun _ _ _ h => h) (Or.inl ⟨by rfl, ?_⟩) (by assumption) ?_
    rotate_left
    focus ((intro w hSw; (try dsimp only at hSw); go_simp) <;> (try with_reducible rfl))
    try simp only [Act.put, List.setIfInBounds_toArray, List.set_cons_zero, List.set_cons_succ]
    refine wpAnyH_ready (rs := [39]) (by kernel_rfl) (by simp) ?_
    refine AllReadyH.cons (o := { dst := some 183, op := Op.call { callee := Callee.value (Operand.func 25), args := #[Operand.tmp 181, Operand.tmp 182], argTypes := #[26, 3] }, type := 26, pos := "law.go:59", after := #[{ on := 37, ground := Ground.data }, { on := 38, ground := Ground.data }, { on := 36, ground := Ground.chain }, { on := 36, ground := Ground.guard }], guard := some (36, true) }) rfl (fun K hK => ?_) AllReadyH.nil
    go_simp
    (first | (go_at_call 25; refine (HP1.out _ HA.out.mid.row).mono ?_; rintro e paw ⟨pab, pac, rfl, par, hb⟩; replace HA := Lib.hid (HA.out.below hb); have paR := Lib.hid (par.mono (Nat.zero_le _)); have xpa0 := HA.out.blk.c0; have xpa1 := HA.out.blk.c1; simp only at xpa0 xpa1; clear hb par))
    go_wp2_with fail
    refine hK.out _ _ (by (try dsimp only); go_keep) (fun hHeld => ?_)
    clear hK K
    try simp only [Act.put, List.setIfInBounds_toArray, List.set_cons_zero, List.set_cons_succ]
    refine wpAnyH_ready (rs := [42]) (by kernel_rfl) (by simp) ?_
    refine AllReadyH.cons (o := { dst := some 186, op := Op.call { callee := Callee.value (Operand.func 26), args := #[Operand.tmp 184, Operand.tmp 185], argTypes := #[26, 3] }, type := 26, pos := "law.go:59", after := #[{ on := 40, ground := Ground.data }, { on := 41, ground := Ground.data }, { on := 39, ground := Ground.chain }, { on := 36, ground := Ground.guard }], guard := some (36, true) }) rfl (fun K hK => ?_) AllReadyH.nil
    go_simp
    (first | (go_at_call 26; refine (HP2.out _ HA.out.mid.row).mono ?_; rintro e pbw ⟨pbb, pbc, rfl, pbr, hb⟩; replace HA := Lib.hid (HA.out.below hb); replace paR := Lib.hid (paR.out.below hb); have pbR := Lib.hid pbr; have xpb0 := HA.out.blk.c0; have xpb1 := HA.out.blk.c1; simp only at xpb0 xpb1; clear hb pbr))
    go_wp2_with fail
    refine hK.out _ _ (by (try dsimp only); go_keep) (fun hHeld => ?_)
    clear hK K
    try simp only [Act.put, List.setIfInBounds_toArray, List.set_cons_zero, List.set_cons_succ]
    refine wpAnyH_ready (rs := [43]) (by kernel_rfl) (by simp) ?_
    refine AllReadyH.cons (o := { dst := some 187, op := Op.call { callee := Callee.value (Operand.func 18), args := #[Operand.tmp 183, Operand.tmp 186], argTypes := #[26, 26] }, type := 4, pos := "law.go:59", after := #[{ on := 39, ground := Ground.data }, { on := 42, ground := Ground.data }, { on := 42, ground := Ground.chain }, { on := 36, ground := Ground.guard }], guard := some (36, true) }) rfl (fun K hK => ?_) AllReadyH.nil
    go_simp
    (first | (go_at_call 18; refine (same_any 0 0 pab pbb pl pac pbc _ paR.out pbR.out hpl).mono ?_; rintro e pcw ⟨rfl, hb⟩; replace HA := Lib.hid (HA.out.below hb); have xpc0 := HA.out.blk.c0; have xpc1 := HA.out.blk.c1; simp only at xpc0 xpc1; clear hb paR pbR))
    go_wp2_with fail
    refine hK.out _ _ (by (try dsimp only); go_keep) (fun hHeld => ?_)
    clear hK K
    try simp only [Act.put, List.setIfInBounds_toArray, List.set_cons_zero, List.set_cons_succ]
    refine wpAnyH_take (i := 44) (oi := { dst := some 188, op := Op.pick (Operand.tmp 180) (Operand.tmp 187) (Operand.const (Value.bool false)), type := 4, pos := "law.go:59", after := #[{ on := 36, ground := Ground.data }, { on := 43, ground := Ground.data }], guard := none }) (v := ?_) rfl (by kernel_rfl) (by kernel_rfl) (by kernel_rfl) (fun _ _ _ h => h) (Or.inl ⟨by rfl, ?_⟩) (by assumption) ?_
    rotate_left
    focus ((intro w hSw; (try dsimp only at hSw); go_simp) <;> (try with_reducible rfl))
    try simp only [Act.put, List.setIfInBounds_toArray, List.set_cons_zero, List.set_cons_succ]
    refine wpAnyH_take (i := 45) (oi := { dst := some 189, op := Op.move (Operand.tmp 188), type := 4, pos := "law.go:59", after := #[{ on := 44, ground := Ground.data }, { on := 43, ground := Ground.chain }], guard := none }) (v := ?_) rfl (by kernel_rfl) (by kernel_rfl) (by kernel_rfl) (fun _ _ _ h => h) (Or.inl ⟨by rfl, ?_⟩) (by assumption) ?_
    rotate_left
    focus ((intro w hSw; (try dsimp only at hSw); go_simp) <;> (try with_reducible rfl))
    try simp only [Act.put, List.setIfInBounds_toArray, List.set_cons_zero, List.set_cons_succ]
    refine wpAnyH_ready (rs := [46]) (by kernel_rfl) (by simp) ?_
    refine AllReadyH.cons (o := { dst := some 190, op := Op.call { callee := Callee.value (Operand.func 27), args := #[], argTypes := #[] }, type := 4, pos := "law.go:59", after := #[{ on := 45, ground := Ground.chain }, { on := 45, ground := Ground.guard }], guard := some (45, true) }) rfl (fun K hK => ?_) AllReadyH.nil
    go_simp
    (first | (go_at_call 27; refine (awake_any _).mono ?_; rintro e aw ⟨rfl, hb⟩; replace HA := Lib.hid (HA.out.below hb); have xa0 := HA.out.blk.c0; have xa1 := HA.out.blk.c1; simp only at xa0 xa1; clear hb))
    go_wp2_with fail
    refine hK.out _ _ (by (try dsimp only); go_keep) (fun hHeld => ?_)
    clear hK K
    try simp only [Act.put, List.setIfInBounds_toArray, List.set_cons_zero, List.set_cons_succ]
    refine wpAnyH_take (i := 47) (oi := { dst := some 191, op := Op.pick (Operand.tmp 189) (Operand.tmp 190) (Operand.const (Value.bool false)), type := 4, pos := "law.go:59", after := #[{ on := 45, ground := Ground.data }, { on := 46, ground := Ground.data }], guard := none }) (v := ?_) rfl (by kernel_rfl) (by kernel_rfl) (by kernel_rfl) (fun _ _ _ h => h) (Or.inl ⟨by rfl, ?_⟩) (by assumption) ?_
    rotate_left
    focus ((intro w hSw; (try dsimp only at hSw); go_simp) <;> (try with_reducible rfl))
    try simp only [Act.put, List.setIfInBounds_toArray, List.set_cons_zero, List.set_cons_succ]
    refine wpAnyH_take (i := 48) (oi := { dst := some 2, op := Op.assign (Operand.tmp 191), type := 4, pos := "law.go:59", after := #[{ on := 47, ground := Ground.data }, { on := 46, ground := Ground.chain }, { on := 0, ground := Ground.phase }, { on := 1, ground := Ground.phase }, { on := 2, ground := Ground.phase }, { on := 3, ground := Ground.phase }, { on := 4, ground := Ground.phase }, { on := 5, ground := Ground.phase }, { on := 6, ground := Ground.phase }, { on := 7, ground := Ground.phase }, { on := 8, ground := Ground.phase }, { on := 9, ground := Ground.phase }, { on := 10, ground := Ground.phase }, { on := 11, ground := Ground.phase }, { on := 12, ground := Ground.phase }, { on := 13, ground := Ground.phase }, { on := 14, ground := Ground.phase }, { on := 15, ground := Ground.phase }, { on := 16, ground := Ground.phase }, { on := 17, ground := Ground.phase }, { on := 18, ground := Ground.phase }, { on := 19, ground := Ground.phase }, { on := 20, ground := Ground.phase }, { on := 21, ground := Ground.phase }, { on := 22, ground := Ground.phase }, { on := 23, ground := Ground.phase }, { on := 24, ground := Ground.phase }, { on := 25, ground := Ground.phase }, { on := 26, ground := Ground.phase }, { on := 27, ground := Ground.phase }, { on := 28, ground := Ground.phase }, { on := 29, ground := Ground.phase }, { on := 30, ground := Ground.phase }, { on := 31, ground := Ground.phase }, { on := 32, ground := Ground.phase }, { on := 33, ground := Ground.phase }, { on := 34, ground := Ground.phase }, { on := 35, ground := Ground.phase }, { on := 36, ground := Ground.phase }, { on := 37, ground := Ground.phase }, { on := 38, ground := Ground.phase }, { on := 39, ground := Ground.phase }, { on := 40, ground := Ground.phase }, { on := 41, ground := Ground.phase }, { on := 42, ground := Ground.phase }, { on := 43, ground := Ground.phase }, { on := 44, ground := Ground.phase }, { on := 45, ground := Ground.phase }, { on := 46, ground := Ground.phase }, { on := 47, ground := Ground.phase }], guard := none }) (v := ?_) rfl (by kernel_rfl) (by kernel_rfl) (by kernel_rfl) (fun _ _ _ h => h) (Or.inl ⟨by rfl, ?_⟩) (by assumption) ?_
    rotate_left
    focus ((intro w hSw; (try dsimp only at hSw); go_simp) <;> (try with_reducible rfl))
    try simp only [Act.put, List.setIfInBounds_toArray, List.set_cons_zero, List.set_cons_succ]
    refine wpAnyH_done (by kernel_rfl) ?_ _
    go_wp2_with fail
    go_ret
    exact ⟨rfl, HA.out.mid.bel⟩
end Go.Proofs.Ytodonnagmgbliaa
