/- The walk of AreaCalls. -/
import Derived.Test.YtpnoilpdlnlebaaDr
import Derived.Test.YtpnoilpdlnlebaaMd
namespace Go.Proofs.Ytpnoilpdlnlebaa
open Go.ChangeShapes Go.WideShapes Go.ChangeAt Go.RowKit

theorem Tock.belowB {t B : Nat} {w w' : World} (h : Tock t w w') (hB : B ≤ t) (hs : B ≤ w.heap.size) : Below B w w' :=
  ⟨h.os, h.tape, h.output, h.size, fun k hk => h.block k (by omega) (by omega)⟩
/-- the world in the midst of AreaCalls: the list, the tape, the area in block A -/
structure MidA (w0 : World) (T : Nat) (a : Option Addr) (len cap : Nat) (b : Option Addr) (c : Nat) (l : List Ar) (A : Nat) (e : Ar) (W : World) : Prop where
  mid : Mid w0 w0 T a len cap b c l W
  blk : Blk W A e
  ne : A ≠ T
  nb : ∀ g, b = some ⟨g, 0, none⟩ → g ≠ A
  lo : w0.heap.size ≤ A
theorem Mid.tock {w0 wx : World} {T : Nat} {a : Option Addr} {len cap : Nat} {b : Option Addr} {c : Nat} {l : List Ar} {W W' : World} (h : Mid w0 wx T a len cap b c l W) (hk : Tock T W W') (tp : TP w0 T a len cap W') : Mid w0 wx T a len cap b c l W' :=
  ⟨h.bel.trans (hk.belowB h.lo h.bel.size), h.row.keep hk.size (fun g hg hl => hk.block g (h.ob g hg) hl), tp, h.lo, h.ob⟩
theorem MidA.below {w0 : World} {T : Nat} {a : Option Addr} {len cap : Nat} {b : Option Addr} {c : Nat} {l : List Ar} {A : Nat} {e : Ar} {W W' : World} (h : MidA w0 T a len cap b c l A e W) (hb : Below W.heap.size W W') : MidA w0 T a len cap b c l A e W' :=
  ⟨h.mid.below hb, h.blk.below hb, h.ne, h.nb, h.lo⟩
theorem MidA.tock {w0 : World} {T : Nat} {a : Option Addr} {len cap : Nat} {b : Option Addr} {c : Nat} {l : List Ar} {A : Nat} {e : Ar} {W W' : World} (h : MidA w0 T a len cap b c l A e W) (hk : Tock T W W') (tp : TP w0 T a len cap W') : MidA w0 T a len cap b c l A e W' :=
  ⟨h.mid.tock hk tp, h.blk.tock hk h.ne, h.ne, h.nb, h.lo⟩
theorem MidA.set1 {w0 : World} {T : Nat} {a : Option Addr} {len cap : Nat} {b : Option Addr} {c : Nat} {l : List Ar} {A : Nat} {st cn fi pg : Int} {wb : Bool} {W : World} (h : MidA w0 T a len cap b c l A ⟨st, cn, fi, pg, wb⟩ W) (z : Int) : MidA w0 T a len cap b c l A ⟨st, z, fi, pg, wb⟩ (W.setCell ⟨A, 1, none⟩ (.int .i64 z)) := by
  have hA := h.blk.hi
  have hT := h.mid.tp.hi
  have hl := h.mid.lo
  have hother : ∀ k, k ≠ A → (W.setCell ⟨A, 1, none⟩ (.int .i64 z)).heap[k]? = W.heap[k]? := fun k hk => heap_setCell_other W ⟨A, 1, none⟩ k _ hk
  have hsz : (W.setCell ⟨A, 1, none⟩ (.int .i64 z)).heap.size = W.heap.size := by simp [World.setCell]
  refine ⟨⟨h.mid.bel.trans (Below.setCell (p := ⟨A, 1, none⟩) (Below.refl _ W) h.lo _), h.mid.row.keep (Nat.le_of_eq hsz.symm) (fun g hg _ => hother g (h.nb g hg)), ?_, hl, h.mid.ob⟩, ⟨by rw [hsz]; exact hA, ?_, World.cell?_setCell_same _ _ _ h.blk.c1, ?_, ?_, ?_, fun i hi => by rw [World.frozen?_setCell]; exact h.blk.f i hi⟩, h.ne, h.nb, h.lo⟩
  · obtain ⟨k, hk⟩ := h.mid.tp
    have hc : ∀ o, (W.setCell ⟨A, 1, none⟩ (.int .i64 z)).cell? ⟨T, o, none⟩ = W.cell? ⟨T, o, none⟩ := fun o => World.cell?_of_block (w := W) (a := ⟨T, o, none⟩) (hother T (Ne.symm h.ne))
    exact ⟨k, hk.row, hk.lo, by rw [hsz]; exact hk.hi, hk.bel.trans (Below.setCell (p := ⟨A, 1, none⟩) (Below.refl _ W) h.lo _), by rw [hc]; exact hk.c0, by rw [hc]; exact hk.c1, by rw [World.frozen?_setCell]; exact hk.fz, hk.kl, hk.lm⟩
  · rw [World.cell?_setCell_other _ _ _ _ (by simp)]; exact h.blk.c0
  · rw [World.cell?_setCell_other _ _ _ _ (by simp)]; exact h.blk.c2
  · rw [World.cell?_setCell_other _ _ _ _ (by simp)]; exact h.blk.c3
  · rw [World.cell?_setCell_other _ _ _ _ (by simp)]; exact h.blk.c4
theorem MidA.next {w0 : World} {T : Nat} {a : Option Addr} {len cap : Nat} {b : Option Addr} {c : Nat} {l : List Ar} {A : Nat} {e : Ar} {W : World} (h : MidA w0 T a len cap b c l A e W) (n : Int) (h1 : 1 ≤ n) (h2 : n ≤ 1000000) :
    Calls Try.prog 8 #[.pointer (some ⟨T, 0, none⟩), .int .i64 n] W fun e' w' => ∃ r : Int, 0 ≤ r ∧ r < n ∧ e' = .returned (.int .i64 r) ∧ MidA w0 T a len cap b c l A e w' :=
  (next_tp n _ _ _ _ _ _ h1 h2 h.mid.tp).mono fun _ _ ⟨r, h0, h1, he, hk, tp⟩ => ⟨r, h0, h1, he, h.tock hk.tock tp⟩
theorem MidA.odd {w0 : World} {T : Nat} {a : Option Addr} {len cap : Nat} {b : Option Addr} {c : Nat} {l : List Ar} {A : Nat} {e : Ar} {W : World} (h : MidA w0 T a len cap b c l A e W) :
    Calls Try.prog 9 #[.pointer (some ⟨T, 0, none⟩)] W fun e' w' => ∃ r : Int, e' = .returned (.int .i64 r) ∧ MidA w0 T a len cap b c l A e w' :=
  (odd_any _ _ _ _ _ _ h.mid.tp).mono fun _ _ ⟨r, _, _, he, hk, tp⟩ => ⟨r, he, h.tock hk tp⟩
theorem Mid.nextM {w0 wx : World} {T : Nat} {a : Option Addr} {len cap : Nat} {b : Option Addr} {c : Nat} {l : List Ar} {W : World} (h : Mid w0 wx T a len cap b c l W) (n : Int) (h1 : 1 ≤ n) (h2 : n ≤ 1000000) :
    Calls Try.prog 8 #[.pointer (some ⟨T, 0, none⟩), .int .i64 n] W fun e' w' => ∃ r : Int, 0 ≤ r ∧ r < n ∧ e' = .returned (.int .i64 r) ∧ Mid w0 wx T a len cap b c l w' :=
  (next_tp n _ _ _ _ _ _ h1 h2 h.tp).mono fun _ _ ⟨r, h0, h1, he, hk, tp⟩ => ⟨r, h0, h1, he, h.tick hk tp⟩
theorem IRow.at {B cap : Nat} {a : Option Addr} {l : List Int} {w : World} (h : IRow B a cap l w) (j : Nat) (hj : j < l.length) : ∃ g, a = some ⟨g, 0, none⟩ ∧ (l.length : Int) ≤ cap ∧ w.cell? ⟨g, j, none⟩ = some (.int .i64 (l.getD j 0)) := by
  rcases h with ⟨_, h2, _⟩ | ⟨g, h1, _, _, h4, _, h6⟩
  · rw [h2] at hj; exact absurd hj (Nat.not_lt_zero _)
  · exact ⟨g, h1, by omega, h6 j hj⟩
theorem IRow.mono {B C cap : Nat} {a : Option Addr} {l : List Int} {w : World} (h : IRow B a cap l w) (hc : C ≤ B) : IRow C a cap l w := by
  rcases h with h | ⟨g, h1, h2, h3⟩
  · exact Or.inl h
  · exact Or.inr ⟨g, h1, Nat.le_trans hc h2, h3⟩
set_option maxRecDepth 100000 in
set_option maxHeartbeats 16000000 in
theorem calls_walk (a0 : Option Addr) (len0 cap0 : Nat) (w : World) (ha : ArgRow w a0 len0) (hl : len0 ≤ maxLen) :
    Calls Try.prog 3 #[.slice a0 len0 cap0] w (RetW (.bool true) w) := by
  have HT : Hid (TP w w.heap.size a0 len0 cap0 (w.alloc (.cells #[.slice a0 len0 cap0, .int .i64 0] 25))) := tape_start w a0 len0 cap0 ha hl
  have hT1 : w.heap.size < (w.alloc (.cells #[.slice a0 len0 cap0, .int .i64 0] 25)).heap.size := by simp
  go_enter Try.func3, Try.ntmps3
  go_wp2_with fail
  generalize w.alloc (.cells #[.slice a0 len0 cap0, .int .i64 0] 25) = w1 at *
  refine (drawn_any _ _ _ _ _ _ HT.out).mono ?_
  rintro e w2 ⟨b, c, l, rfl, hl5, hr, hk, tp⟩
  have HM : Hid (Mid w w w.heap.size a0 len0 cap0 b c l w2) := ⟨tp.bel, hr.mono (Nat.zero_le _), tp, Nat.le_refl _, fun g hg => by have := (hr.blk hg).1; omega⟩
  clear HT hr hk tp hT1
  go_wp2_with fail
  refine (HM.out.nextM 26 (by omega) (by omega)).mono ?_
  rintro e x1 ⟨r1, r10, r11, rfl, hm⟩
  replace HM := Lib.hid hm
  clear hm
  have hw1 : IntKind.i64.wrap (r1 - 1) = r1 - 1 := IntWalk.i64_in _ (by omega)
  go_wp2_with fail
  refine (HM.out.nextM 7 (by omega) (by omega)).mono ?_
  rintro e x2 ⟨r2, r20, r21, rfl, hm⟩
  replace HM := Lib.hid hm
  clear hm
  have hw2 : IntKind.i64.wrap (r2 - 1) = r2 - 1 := IntWalk.i64_in _ (by omega)
  go_wp2_with fail
  refine (HM.out.nextM 4 (by omega) (by omega)).mono ?_
  rintro e x3 ⟨r3, r30, r31, rfl, hm⟩
  replace HM := Lib.hid hm
  clear hm
  go_wp2_with fail
  refine (HM.out.nextM 9 (by omega) (by omega)).mono ?_
  rintro e x4 ⟨r4, r40, r41, rfl, hm⟩
  replace HM := Lib.hid hm
  clear hm
  go_wp2_with fail
  refine (HM.out.nextM 2 (by omega) (by omega)).mono ?_
  rintro e x5 ⟨r5, r50, r51, rfl, hm⟩
  replace HM := Lib.hid hm
  clear hm
  go_wp2_with fail
  have HA : Hid (MidA w w.heap.size a0 len0 cap0 b c l x5.heap.size ⟨r1 - 1, r2 - 1, r3, r4, r5 == 0⟩ (x5.alloc (Obj.cells #[Value.int IntKind.i64 (r1 - 1), Value.int IntKind.i64 (r2 - 1), Value.int IntKind.i64 r3, Value.int IntKind.i64 r4, Value.bool (r5 == 0)] 30))) :=
    ⟨HM.out.below ((Below.refl _ _).alloc (Nat.le_refl _) _), Blk.new x5 _ _ _ _ _, by have := HM.out.tp.hi; omega, fun g hg => by have := (HM.out.row.blk hg).2; omega, HM.out.bel.size⟩
  clear HM
  generalize x5.alloc (Obj.cells #[Value.int IntKind.i64 (r1 - 1), Value.int IntKind.i64 (r2 - 1), Value.int IntKind.i64 r3, Value.int IntKind.i64 r4, Value.bool (r5 == 0)] 30) = x6 at *
  generalize x5.heap.size = A at *
  generalize (r5 == 0) = wb at *
  refine (HA.out.next 26 (by omega) (by omega)).mono ?_
  rintro e x7 ⟨r6, r60, r61, rfl, hm⟩
  replace HA := Lib.hid hm
  clear hm
  have hw3 : IntKind.i64.wrap (r6 - 1) = r6 - 1 := IntWalk.i64_in _ (by omega)
  go_wp2_with fail
  refine (HA.out.next 12 (by omega) (by omega)).mono ?_
  rintro e x8 ⟨r7, r70, r71, rfl, hm⟩
  replace HA := Lib.hid hm
  clear hm
  have hw4 : IntKind.i64.wrap (r7 - 1) = r7 - 1 := IntWalk.i64_in _ (by omega)
  go_wp2_with fail
  refine (HA.out.next 9 (by omega) (by omega)).mono ?_
  rintro e x9 ⟨r8, r80, r81, rfl, hm⟩
  replace HA := Lib.hid hm
  clear hm
  go_upto_if 54 with (fail)
  go_cut [6, 7] (fun s6 s7 wx => ∃ s n cn : Int, s6 = .int .i64 s ∧ s7 = .int .i64 n ∧ Hid (MidA w w.heap.size a0 len0 cap0 b c l A ⟨r1 - 1, cn, r3, r4, wb⟩ wx))
  case first =>
    by_cases hr8 : r8 = 0
    · subst hr8
      go_wp2_with fail
      refine HA.out.odd.mono ?_
      rintro e y1 ⟨z1, rfl, hm⟩
      replace HA := Lib.hid hm
      clear hm
      go_wp2_with fail
      refine HA.out.odd.mono ?_
      rintro e y2 ⟨z2, rfl, hm⟩
      replace HA := Lib.hid hm
      clear hm
      go_wp2_with fail
      refine HA.out.odd.mono ?_
      rintro e y3 ⟨z3, rfl, hm⟩
      replace HA := Lib.hid hm
      clear hm
      have k1 := HA.out.blk.c1; have f1 := HA.out.blk.f 1 (by omega)
      simp only at k1
      have HS := Lib.hid (HA.out.set1 z1)
      go_wp2_with fail
      go_meet
      exact ⟨_, _, _, rfl, rfl, HS⟩
    · have hr8' : (r8 == 0) = false := by simpa using hr8
      clear hr8
      go_wp2_with fail
      go_meet
      exact ⟨_, _, _, rfl, rfl, HA⟩
  case rest =>
    clear HA
    obtain ⟨s, n, cn, rfl, rfl, HA⟩ := hcut
    have HMV := fun (W : World) (h : ARow 0 b c l W) => map_any 0 b l c ⟨r1 - 1, cn, r3, r4, wb⟩ W h (by omega) (insOK_any _ (by omega))
    have HRV := fun (W : World) (h : ARow 0 b c l W) => mapR_any 0 b l c ⟨r1 - 1, cn, r3, r4, wb⟩ W h (by omega)
    rw [← map_eq] at HRV
    unfold arVal at HMV HRV
    simp only at HMV HRV
    have HML : Hid ((mapV l ⟨r1 - 1, cn, r3, r4, wb⟩).1.length ≤ 100) := by
      unfold Hid mapV
      split
      · show l.length ≤ 100; omega
      · split
        · show l.length ≤ 100; omega
        · split
          · show l.length ≤ 100; omega
          · split
            · show l.length ≤ 100; omega
            · show (insAt l _ _).length ≤ 100
              unfold insAt
              simp
              omega
    generalize mapV l ⟨r1 - 1, cn, r3, r4, wb⟩ = M at *
    obtain ⟨my, me⟩ := M
    simp only at HMV HRV HML
    have HM1 := Lib.hid HMV; have HM2 := Lib.hid HRV
    clear HMV HRV
    have HUV := fun (W : World) (h : ARow 0 b c l W) => unmap_any 0 b l c s n W h (by omega)
    have HUR := fun (W : World) (h : ARow 0 b c l W) => unmapR_any 0 b l c s n W h (by omega)
    have hul : (unmapV l s n).1.length ≤ 100 := by
      unfold unmapV
      split
      · show l.length ≤ 100; omega
      · split
        · show l.length ≤ 100; omega
        · split
          · show l.length ≤ 100; omega
          · rename_i h8; show (outTo l s n l.length).length ≤ 100; omega
    generalize unmapV l s n = U at *
    obtain ⟨uy, ue⟩ := U
    simp only at HUV HUR hul
    have HU1 := Lib.hid HUV; have HU2 := Lib.hid HUR
    clear HUV HUR
    have HF1 := Lib.hid (fun (W : World) (h : ARow 0 b c l W) => find_any 0 b l c s W h (by omega))
    have HF2 := Lib.hid (fun (W : World) (h : ARow 0 b c l W) => findR_any 0 b l c s W h (by omega))
    unfold arVal at HF1 HF2
    generalize optA (findV l s) = fe at *
    generalize (findV l s).isSome = fk at *
    obtain ⟨q0, q1, q2, q3, q4⟩ := fe
    simp only at HF1 HF2
    have HR1 := Lib.hid (fun (W : World) (h : ARow 0 b c l W) => room_any 0 b l c n W h (by omega))
    have HR2 := Lib.hid (fun (W : World) (h : ARow 0 b c l W) => roomR_any 0 b l c n W h (by omega))
    generalize roomV l n = R at *
    obtain ⟨rp, rk⟩ := R
    simp only at HR1 HR2
    have HS1 := Lib.hid (fun (W : World) (h : ARow 0 b c l W) => shown_any 0 b l c r3 r4 W h (by omega) (by omega) (by omega))
    have HS2 := Lib.hid (fun (W : World) (h : ARow 0 b c l W) => shownR_any 0 b l c r3 r4 W h (by omega))
    have hsl : (shownV l r3 r4).length ≤ 100 := by
      unfold shownV
      split
      · have := shownTo_len l r3 r4 l.length; omega
      · simp
    generalize shownV l r3 r4 = S at *
    have HC1 := Lib.hid (fun (W : World) (h : ARow 0 b c l W) => check_any 0 b l c W h (by omega))
    have HC2 := Lib.hid (fun (W : World) (h : ARow 0 b c l W) => checkR_any 0 b l c W h (by omega))
    generalize checkV l = ck at *
    have k0 := HA.out.blk.c0; have k1 := HA.out.blk.c1; have k2 := HA.out.blk.c2; have k3 := HA.out.blk.c3; have k4 := HA.out.blk.c4
    simp only at k0 k1 k2 k3 k4
    go_wp2_with fail
    refine (HM1.out _ HA.out.mid.row).mono ?_
    rintro e y1 ⟨b1, c1, rfl, hr1, hb⟩
    replace HA := Lib.hid (HA.out.below hb)
    have G1 := Lib.hid (hr1.mono (Nat.zero_le _))
    clear hr1 hb HM1 k0 k1 k2 k3 k4
    have k0 := HA.out.blk.c0; have k1 := HA.out.blk.c1; have k2 := HA.out.blk.c2; have k3 := HA.out.blk.c3; have k4 := HA.out.blk.c4
    simp only at k0 k1 k2 k3 k4
    go_wp2_with fail
    have hrx := HA.out.mid.row
    refine (HM2.out _ hrx).mono ?_
    rintro e y2 ⟨b2, c2, rfl, hr2, hb⟩
    replace HA := Lib.hid (HA.out.below hb)
    have G2 : Hid (ARow 0 b2 c2 my y2) := by
      rcases hr2 with h | ⟨rfl, rfl, rfl⟩
      · exact h.mono (Nat.zero_le _)
      · exact HA.out.mid.row
    replace G1 := Lib.hid (G1.out.below hb)
    clear hr2 hb HM2 hrx k0 k1 k2 k3 k4
    go_wp2_with fail
    refine (HU1.out _ HA.out.mid.row).mono ?_
    rintro e y3 ⟨b3, c3, rfl, hr3, hb⟩
    replace HA := Lib.hid (HA.out.below hb)
    have G3 := Lib.hid (hr3.mono (Nat.zero_le _))
    replace G1 := Lib.hid (G1.out.below hb)
    replace G2 := Lib.hid (G2.out.below hb)
    clear hr3 hb HU1
    go_wp2_with fail
    refine (HU2.out _ HA.out.mid.row).mono ?_
    rintro e y4 ⟨b4, c4, rfl, hr4, hb⟩
    replace HA := Lib.hid (HA.out.below hb)
    have G4 := Lib.hid hr4
    replace G1 := Lib.hid (G1.out.below hb)
    replace G2 := Lib.hid (G2.out.below hb)
    replace G3 := Lib.hid (G3.out.below hb)
    clear hr4 hb HU2
    go_wp2_with fail
    refine (HF1.out _ HA.out.mid.row).mono ?_
    rintro e y5 ⟨rfl, hb⟩
    replace HA := Lib.hid (HA.out.below hb)
    replace G1 := Lib.hid (G1.out.below hb)
    replace G2 := Lib.hid (G2.out.below hb)
    replace G3 := Lib.hid (G3.out.below hb)
    replace G4 := Lib.hid (G4.out.below hb)
    clear hb HF1
    go_wp2_with fail
    have B1 := Lib.hid (Blk.new y5 q0 q1 q2 q3 q4)
    have hb := (Below.refl y5.heap.size y5).alloc (Nat.le_refl _) (Obj.cells #[Value.int IntKind.i64 q0, Value.int IntKind.i64 q1, Value.int IntKind.i64 q2, Value.int IntKind.i64 q3, Value.bool q4] 30)
    replace HA := Lib.hid (HA.out.below hb)
    replace G1 := Lib.hid (G1.out.below hb)
    replace G2 := Lib.hid (G2.out.below hb)
    replace G3 := Lib.hid (G3.out.below hb)
    replace G4 := Lib.hid (G4.out.below hb)
    clear hb
    generalize y5.alloc (Obj.cells #[Value.int IntKind.i64 q0, Value.int IntKind.i64 q1, Value.int IntKind.i64 q2, Value.int IntKind.i64 q3, Value.bool q4] 30) = y6 at *
    generalize y5.heap.size = P1 at *
    refine (HF2.out _ HA.out.mid.row).mono ?_
    rintro e y7 ⟨rfl, hb⟩
    replace HA := Lib.hid (HA.out.below hb)
    replace G1 := Lib.hid (G1.out.below hb)
    replace G2 := Lib.hid (G2.out.below hb)
    replace G3 := Lib.hid (G3.out.below hb)
    replace G4 := Lib.hid (G4.out.below hb)
    replace B1 := Lib.hid (B1.out.below hb)
    clear hb HF2
    go_wp2_with fail
    have B2 := Lib.hid (Blk.new y7 q0 q1 q2 q3 q4)
    have hb := (Below.refl y7.heap.size y7).alloc (Nat.le_refl _) (Obj.cells #[Value.int IntKind.i64 q0, Value.int IntKind.i64 q1, Value.int IntKind.i64 q2, Value.int IntKind.i64 q3, Value.bool q4] 30)
    replace HA := Lib.hid (HA.out.below hb)
    replace G1 := Lib.hid (G1.out.below hb)
    replace G2 := Lib.hid (G2.out.below hb)
    replace G3 := Lib.hid (G3.out.below hb)
    replace G4 := Lib.hid (G4.out.below hb)
    replace B1 := Lib.hid (B1.out.below hb)
    clear hb
    generalize y7.alloc (Obj.cells #[Value.int IntKind.i64 q0, Value.int IntKind.i64 q1, Value.int IntKind.i64 q2, Value.int IntKind.i64 q3, Value.bool q4] 30) = y8 at *
    generalize y7.heap.size = P2 at *
    refine (HR1.out _ HA.out.mid.row).mono ?_
    rintro e y9 ⟨rfl, hb⟩
    replace HA := Lib.hid (HA.out.below hb)
    replace G1 := Lib.hid (G1.out.below hb)
    replace G2 := Lib.hid (G2.out.below hb)
    replace G3 := Lib.hid (G3.out.below hb)
    replace G4 := Lib.hid (G4.out.below hb)
    replace B1 := Lib.hid (B1.out.below hb)
    replace B2 := Lib.hid (B2.out.below hb)
    clear hb HR1
    go_wp2_with fail
    refine (HR2.out _ HA.out.mid.row).mono ?_
    rintro e z1 ⟨rfl, hb⟩
    replace HA := Lib.hid (HA.out.below hb)
    replace G1 := Lib.hid (G1.out.below hb)
    replace G2 := Lib.hid (G2.out.below hb)
    replace G3 := Lib.hid (G3.out.below hb)
    replace G4 := Lib.hid (G4.out.below hb)
    replace B1 := Lib.hid (B1.out.below hb)
    replace B2 := Lib.hid (B2.out.below hb)
    clear hb HR2
    go_upto_region 15 with (fail)
    have CB : Hid (∀ W, Below z1.heap.size z1 W → W.cell? ⟨A, 2, none⟩ = some (.int .i64 r3) ∧ W.cell? ⟨A, 3, none⟩ = some (.int .i64 r4)) := fun W hW => ⟨(HA.out.blk.below hW).c2, (HA.out.blk.below hW).c3⟩
    have T1 : Hid (∀ W, Below z1.heap.size z1 W → Calls Try.prog 18 #[.slice b l.length c, .int .i64 r3, .int .i64 r4] W fun e' w' => ∃ b5 c5, e' = .returned (.slice b5 S.length c5) ∧ IRow 0 b5 c5 S w' ∧ Below z1.heap.size z1 w') := fun W hW => (HS1.out W (HA.out.mid.row.below hW)).mono fun e' w' ⟨b5, c5, he, hi, hb⟩ => ⟨b5, c5, he, hi.mono (Nat.zero_le _), hW.trans (hb.mono hW.size)⟩
    have T2 : Hid (∀ W, Below z1.heap.size z1 W → Calls Try.prog 19 #[.slice b l.length c, .int .i64 r3, .int .i64 r4] W fun e' w' => ∃ b6 c6, e' = .returned (.slice b6 S.length c6) ∧ IRow 0 b6 c6 S w' ∧ Below z1.heap.size z1 w' ∧ Below W.heap.size W w') := fun W hW => (HS2.out W (HA.out.mid.row.below hW)).mono fun e' w' ⟨b6, c6, he, hi, hb⟩ => ⟨b6, c6, he, hi.mono (Nat.zero_le _), hW.trans (hb.mono hW.size), hb⟩
    clear HS1 HS2
    go_cut [24, 25] (fun s24 s25 wx => ∃ (b5 : Option Addr) (c5 : Nat) (b6 : Option Addr) (c6 : Nat), s24 = .slice b5 S.length c5 ∧ s25 = .slice b6 S.length c6 ∧ Hid (Below z1.heap.size z1 wx) ∧ Hid (IRow 0 b5 c5 S wx) ∧ Hid (IRow 0 b6 c6 S wx))
    case first =>
      obtain ⟨kz2, kz3⟩ := CB.out z1 (Below.refl _ _)
      have HW := Lib.hid (Below.drew (Below.refl z1.heap.size z1))
      go_region_held3 (fun w' => w'.cell? ⟨A, 2, none⟩ = some (.int .i64 r3) ∧ w'.cell? ⟨A, 3, none⟩ = some (.int .i64 r4)) (go_keep) (first | (go_at_call 18; (with_reducible refine (T1.out _ HW.out).mono ?_); rintro e' wa ⟨b5, c5, rfl, i5, va⟩; obtain ⟨ka2, ka3⟩ := CB.out _ va) | (go_at_call 19; (with_reducible refine (T2.out _ va).mono ?_); rintro e' wd ⟨b6, c6, rfl, i6, vd, hd⟩; obtain ⟨kd2, kd3⟩ := CB.out _ vd))
      all_goals
        go_wp2_with fail
        go_meet
        exact ⟨b5, c5, b6, c6, rfl, rfl, vd, i5.below hd, i6⟩
    case rest =>
      obtain ⟨b5, c5, b6, c6, rfl, rfl, HB, I5, I6⟩ := hcut
      replace HA := Lib.hid (HA.out.below HB.out)
      replace G1 := Lib.hid (G1.out.below HB.out)
      replace G2 := Lib.hid (G2.out.below HB.out)
      replace G3 := Lib.hid (G3.out.below HB.out)
      replace G4 := Lib.hid (G4.out.below HB.out)
      replace B1 := Lib.hid (B1.out.below HB.out)
      replace B2 := Lib.hid (B2.out.below HB.out)
      clear HB CB T1 T2
      go_wp2_with fail
      go_loopw [26] (fun v26 wr => ∃ k : Nat, k ≤ S.length ∧ v26 = .int .i64 k ∧ Hid (Below wc.heap.size wc wr)) (fun v26 _ => 200 - (intOf v26).toNat)
      case atStart => exact ⟨0, Nat.zero_le _, rfl, Below.refl _ _⟩
      case round =>
        obtain ⟨k, hk, rfl, HW⟩ := hrel
        by_cases hlt : k < S.length
        · have hlt' : (k : Int) < (S.length : Int) := by omega
          obtain ⟨g5, rfl, hc5, kc5⟩ := (I5.out.below HW.out).at k hlt
          obtain ⟨g6, rfl, hc6, kc6⟩ := (I6.out.below HW.out).at k hlt
          generalize S.getD k 0 = sv at *
          go_wp2_with fail
          go_quiet (fail)
          go_wp2_with fail
          go_roundw
          case rel => exact ⟨k + 1, by omega, by go_num, below_drewN HW.out nq⟩
          case measure => simp [intOf]; omega
        · obtain rfl : k = S.length := by omega
          replace HA := Lib.hid (HA.out.below HW.out)
          replace G1 := Lib.hid (G1.out.below HW.out)
          replace G2 := Lib.hid (G2.out.below HW.out)
          replace G3 := Lib.hid (G3.out.below HW.out)
          replace G4 := Lib.hid (G4.out.below HW.out)
          replace B1 := Lib.hid (B1.out.below HW.out)
          replace B2 := Lib.hid (B2.out.below HW.out)
          clear I5 I6 HW hlt
          go_wp2_with fail
          refine (HC1.out _ HA.out.mid.row).mono ?_
          rintro e v1 ⟨rfl, hb⟩
          replace HA := Lib.hid (HA.out.below hb)
          replace G1 := Lib.hid (G1.out.below hb)
          replace G2 := Lib.hid (G2.out.below hb)
          replace G3 := Lib.hid (G3.out.below hb)
          replace G4 := Lib.hid (G4.out.below hb)
          replace B1 := Lib.hid (B1.out.below hb)
          replace B2 := Lib.hid (B2.out.below hb)
          clear hb HC1
          go_wp2_with fail
          refine (HC2.out _ HA.out.mid.row).mono ?_
          rintro e v2 ⟨rfl, hb⟩
          replace HA := Lib.hid (HA.out.below hb)
          replace G1 := Lib.hid (G1.out.below hb)
          replace G2 := Lib.hid (G2.out.below hb)
          replace G3 := Lib.hid (G3.out.below hb)
          replace G4 := Lib.hid (G4.out.below hb)
          replace B1 := Lib.hid (B1.out.below hb)
          replace B2 := Lib.hid (B2.out.below hb)
          clear hb HC2
          have hml : my.length ≤ 100 := HML.out
          go_wp2_with fail
          refine (same_any _ _ b1 b2 my c1 c2 _ G1.out G2.out hml).mono ?_
          rintro e v3 ⟨rfl, hb⟩
          replace HA := Lib.hid (HA.out.below hb)
          replace G3 := Lib.hid (G3.out.below hb)
          replace G4 := Lib.hid (G4.out.below hb)
          replace B1 := Lib.hid (B1.out.below hb)
          replace B2 := Lib.hid (B2.out.below hb)
          clear hb G1 G2
          go_wp2_with fail
          refine (same_any _ _ b3 b4 uy c3 c4 _ G3.out G4.out hul).mono ?_
          rintro e v4 ⟨rfl, hb⟩
          replace HA := Lib.hid (HA.out.below hb)
          replace B1 := Lib.hid (B1.out.below hb)
          replace B2 := Lib.hid (B2.out.below hb)
          clear hb G3 G4
          have m0 := B1.out.c0; have m1 := B1.out.c1; have m2 := B1.out.c2; have m3 := B1.out.c3; have m4 := B1.out.c4
          have n0 := B2.out.c0; have n1 := B2.out.c1; have n2 := B2.out.c2; have n3 := B2.out.c3; have n4 := B2.out.c4
          simp only at m0 m1 m2 m3 m4 n0 n1 n2 n3 n4
          go_wp2_with fail
          refine (awake_any _).mono ?_
          rintro e v5 ⟨rfl, hb⟩
          have HFI := Lib.hid (HA.out.below hb).mid.bel
          clear hb HA B1 B2
          go_wp2_with fail
          go_ret
          exact ⟨rfl, HFI.out⟩
end Go.Proofs.Ytpnoilpdlnlebaa
