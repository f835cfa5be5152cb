/- The walk of ErrseqCalls. -/
import Derived.Test.YtmbhenafiglakaaAwake
import Derived.Deep.DeepCutAuto
namespace Go.Proofs.Ytmbhenafiglakaa
open Go.ChangeShapes Go.WideShapes Go.ChangeAt Go.RowKit

theorem cut_some (n m : Int) (w : World) (hm : 1 ≤ m) (hm2 : m ≤ 1000000) :
    Calls Try.prog 5 #[.int .i64 n, .int .i64 m] w fun e w' => ∃ r : Int, 0 ≤ r ∧ r < m ∧ e = .returned (.int .i64 r) ∧ w = w' :=
  (cut_any n m w hm hm2).mono fun e w' h => ⟨cut n m, cut_lo n m hm, cut_hi n m hm, h⟩

theorem rpending_pen (c e u : Int) (w : World) :
    Calls Try.prog 13 #[.agg #[.int .i64 c, .int .i64 e], .int .i64 u] w (RetW (.bool (penB c e u)) w) := by
  rw [← pen_eq]; exact rpending_any c e u w

/-- behind wc there is a new block g with two cells, and nothing older has changed -/
structure New2 (wc wx : World) (g : Nat) (a b : Value) : Prop where
  bel : Below wc.heap.size wc wx
  lo : wc.heap.size ≤ g
  hi : g < wx.heap.size
  c0 : wx.cell? ⟨g, 0, none⟩ = some a
  c1 : wx.cell? ⟨g, 1, none⟩ = some b
theorem new2A {wc w' : World} {a b : Value} {T : TypeId} (hb : Below wc.drew.heap.size wc.drew w') : New2 wc (w'.alloc (.cells #[a, b] T)) w'.heap.size a b :=
  have hs : wc.heap.size ≤ w'.heap.size := hb.size
  ⟨(((Below.refl wc.heap.size wc).drew).trans hb).alloc hs _, hs, by simp, by simp, by simp⟩
theorem new2B {wc w' : World} {a b x y : Value} {T : TypeId} (hb : Below (wc.alloc (.cells #[x, y] T)).drew.heap.size (wc.alloc (.cells #[x, y] T)).drew w') :
    New2 wc ((w'.setCell ⟨wc.heap.size, 0, none⟩ a).setCell ⟨wc.heap.size, 1, none⟩ b) wc.heap.size a b := by
  have hs : wc.heap.size + 1 ≤ w'.heap.size := by
    have : (wc.alloc (.cells #[x, y] T)).heap.size ≤ w'.heap.size := hb.size
    simpa using this
  have hb' : Below (wc.heap.size + 1) (wc.alloc (.cells #[x, y] T)) w' := by
    refine ((Below.refl _ (wc.alloc (.cells #[x, y] T))).drew).trans (hb.mono ?_)
    show wc.heap.size + 1 ≤ (wc.alloc _).heap.size
    simp
  have k0 : w'.cell? ⟨wc.heap.size, 0, none⟩ = some x := (hb'.cell (p := ⟨wc.heap.size, 0, none⟩) (Nat.lt_succ_self _)).trans (by simp)
  have k1 : w'.cell? ⟨wc.heap.size, 1, none⟩ = some y := (hb'.cell (p := ⟨wc.heap.size, 1, none⟩) (Nat.lt_succ_self _)).trans (by simp)
  have e0 : (w'.setCell ⟨wc.heap.size, 0, none⟩ a).cell? ⟨wc.heap.size, 0, none⟩ = some a := World.cell?_setCell_same _ _ _ k0
  have e1 : (w'.setCell ⟨wc.heap.size, 0, none⟩ a).cell? ⟨wc.heap.size, 1, none⟩ = some y := by
    rw [World.cell?_setCell_other]
    · exact k1
    · simp
  refine ⟨Below.setCell (Below.setCell (((Below.refl _ wc).alloc (Nat.le_refl _) _).trans (hb'.mono (Nat.le_succ _))) (Nat.le_refl _) _) (Nat.le_refl _) _, Nat.le_refl _, ?_, ?_, World.cell?_setCell_same _ _ _ e1⟩
  · show wc.heap.size < ((w'.setCell _ _).setCell _ _).heap.size
    simp [World.setCell]; omega
  · rw [World.cell?_setCell_other]
    · exact e0
    · simp

set_option maxRecDepth 100000 in
set_option maxHeartbeats 4000000 in
theorem calls_walk (a0 a1 a2 a3 : Int) (w : World) :
    Calls Try.prog 3 #[.int .i64 a0, .int .i64 a1, .int .i64 a2, .int .i64 a3] w (RetW (.bool true) w) := by
  go_enter Try.func3, Try.ntmps3
  go_wp2_with fail
  refine (cut_some _ _ _ (by omega) (by omega)).mono ?_; rintro e w' ⟨E, hE0, hE1, rfl, rfl⟩
  go_wp2_with fail
  refine (cut_some _ _ _ (by omega) (by omega)).mono ?_; rintro e w' ⟨t1, ht0, ht1, rfl, rfl⟩
  go_upto_if 25 with (fail)
  go_cut [] (fun wx => ∃ C : Int, Below w.heap.size w wx ∧ w.heap.size < wx.heap.size ∧ wx.cell? ⟨w.heap.size, 0, none⟩ = some (.int .i64 C) ∧ wx.cell? ⟨w.heap.size, 1, none⟩ = some (.int .i64 E) ∧ wx.frozen? ⟨w.heap.size, 0, none⟩ = false)
  case first =>
    have hb0 : Below w.heap.size w (w.alloc (.cells #[.int .i64 a0, .int .i64 E] 25)) := (Below.refl _ _).alloc (Nat.le_refl _) _
    go_wp2_with (go_at_call 5; refine (cut_some _ _ _ (by omega) (by omega)).mono ?_; rintro e w' ⟨r, hr0, hr1, rfl, rfl⟩)
    · go_meet
      exact ⟨_, (Below.refl _ _).alloc (Nat.le_refl _) _, by simp, by simp; rfl, by simp, by simp⟩
    · go_meet
      exact ⟨_, hb0, by simp, by simp; rfl, by simp, by simp⟩
  case rest =>
    obtain ⟨C, hb0, hz, c0, c1, f0⟩ := hcut
    go_wp2_with fail
    refine (cut_some _ _ _ (by omega) (by omega)).mono ?_; rintro e w' ⟨t2, ht20, ht21, rfl, rfl⟩
    go_upto_if 31 with (fail)
    go_cut [] (fun wx => ∃ C : Int, Below w.heap.size w wx ∧ w.heap.size < wx.heap.size ∧ wx.cell? ⟨w.heap.size, 0, none⟩ = some (.int .i64 C) ∧ wx.cell? ⟨w.heap.size, 1, none⟩ = some (.int .i64 E) ∧ wx.frozen? ⟨w.heap.size, 0, none⟩ = false)
    case first =>
      go_wp2_with fail
      · go_meet
        refine ⟨_, Below.setCell (p := ⟨w.heap.size, 0, none⟩) hb0 (Nat.le_refl _) _, by simpa using hz, World.cell?_setCell_same _ _ _ c0, ?_, ?_⟩
        · rw [World.cell?_setCell_other]
          · exact c1
          · simp
        · rw [World.frozen?_setCell]; exact f0
      · go_meet
        exact ⟨_, hb0, hz, c0, c1, f0⟩
    case rest =>
      clear c0 c1 f0 hb0 hz
      obtain ⟨C, hb0, hz, c0, c1, f0⟩ := hcut
      clear f0
      go_wp2_with fail
      refine (cut_some _ _ _ (by omega) (by omega)).mono ?_; rintro e w' ⟨t3, ht30, ht31, rfl, rfl⟩
      go_upto_if 36 with (fail)
      go_cut [10] (fun s10 wx => ∃ u : Int, s10 = .int .i64 u ∧ Below w.heap.size w wx ∧ w.heap.size < wx.heap.size ∧ wx.cell? ⟨w.heap.size, 0, none⟩ = some (.int .i64 C) ∧ wx.cell? ⟨w.heap.size, 1, none⟩ = some (.int .i64 E))
      case first =>
        go_wp2_with (go_at_call 5; refine (cut_some _ _ _ (by omega) (by omega)).mono ?_; rintro e w' ⟨r, hr0, hr1, rfl, rfl⟩)
        · go_meet
          exact ⟨_, rfl, hb0, hz, c0, c1⟩
        · go_meet
          exact ⟨_, rfl, hb0, hz, c0, c1⟩
      case rest =>
        clear c0 c1 hb0 hz
        obtain ⟨u, rfl, hb0, hz, c0, c1⟩ := hcut
        go_upto_region 9 with (fail)
        go_cut [11, 12] (fun s1 s2 wx => ∃ g : Nat, s1 = .pointer (some ⟨g, 0, none⟩) ∧ s2 = .int .i64 (recS C E (cut a3 3)).2.2 ∧ New2 wc wx g (.int .i64 (recS C E (cut a3 3)).1) (.int .i64 (recS C E (cut a3 3)).2.1))
        case first =>
          have hne1 : w.heap.size ≠ wc.heap.size := Nat.ne_of_lt hz
          have hne2 : wc.heap.size ≠ w.heap.size := Nat.ne_of_gt hz
          go_region_held3 (fun w' => w'.cell? ⟨w.heap.size, 0, none⟩ = some (.int .i64 C) ∧ w'.cell? ⟨w.heap.size, 1, none⟩ = some (.int .i64 E)) (go_keep) (first | (go_at_call 5; refine (cut_any _ _ _ (by omega) (by omega)).mono ?_; rintro e w' ⟨rfl, rfl⟩) | (go_at_call 6; refine (record_any _ _ _ _).mono ?_; rintro e w' ⟨rfl, hb⟩; have hlt := bnext (B := w.heap.size + 1) hb (by first | exact hz | (simp; omega)); have hlt' : w.heap.size < w'.heap.size := hlt; have k0 := hb.cell (p := ⟨w.heap.size, 0, none⟩) (by first | exact hz | (simp; omega)); have k1 := hb.cell (p := ⟨w.heap.size, 1, none⟩) (by first | exact hz | (simp; omega)); obtain ⟨hc, hf⟩ := bcell hb))
          all_goals (go_wp2_with fail; go_meet; first | exact ⟨_, rfl, rfl, new2A hb⟩ | exact ⟨_, rfl, rfl, new2B hb⟩)
        case rest =>
          obtain ⟨g1, rfl, rfl, N1⟩ := hcut
          replace hb0 := hb0.trans (N1.bel.mono (Nat.le_of_lt hz))
          replace c0 := (N1.bel.cell (p := ⟨w.heap.size, 0, none⟩) hz).trans c0
          replace c1 := (N1.bel.cell (p := ⟨w.heap.size, 1, none⟩) hz).trans c1
          have hg1 := N1.hi
          have hge1 : w.heap.size < g1 := Nat.lt_of_lt_of_le hz N1.lo
          replace hz := Nat.lt_of_lt_of_le hz N1.bel.size
          have d10 := N1.c0
          have d11 := N1.c1
          clear N1
          go_upto_region 10 with (fail)
          go_cut [13, 14] (fun s1 s2 wx => ∃ g : Nat, s1 = .pointer (some ⟨g, 0, none⟩) ∧ s2 = .int .i64 (recS C E (cut a3 3)).2.2 ∧ New2 wc wx g (.int .i64 (recS C E (cut a3 3)).1) (.int .i64 (recS C E (cut a3 3)).2.1))
          case first =>
            have hne1 : w.heap.size ≠ wc.heap.size := Nat.ne_of_lt hz
            have hne2 : wc.heap.size ≠ w.heap.size := Nat.ne_of_gt hz
            go_region_held3 (fun w' => w'.cell? ⟨w.heap.size, 0, none⟩ = some (.int .i64 C) ∧ w'.cell? ⟨w.heap.size, 1, none⟩ = some (.int .i64 E)) (go_keep) (first | (go_at_call 5; refine (cut_any _ _ _ (by omega) (by omega)).mono ?_; rintro e w' ⟨rfl, rfl⟩) | (go_at_call 7; refine (rrecord_any _ _ _ _).mono ?_; rintro e w' ⟨rfl, hb⟩; have hlt := bnext (B := w.heap.size + 1) hb (by first | exact hz | (simp; omega)); have hlt' : w.heap.size < w'.heap.size := hlt; have k0 := hb.cell (p := ⟨w.heap.size, 0, none⟩) (by first | exact hz | (simp; omega)); have k1 := hb.cell (p := ⟨w.heap.size, 1, none⟩) (by first | exact hz | (simp; omega)); obtain ⟨hc, hf⟩ := bcell hb))
            all_goals (go_wp2_with fail; go_meet; first | exact ⟨_, rfl, rfl, new2A hb⟩ | exact ⟨_, rfl, rfl, new2B hb⟩)
          case rest =>
            obtain ⟨g2, rfl, rfl, N2⟩ := hcut
            replace hb0 := hb0.trans (N2.bel.mono (Nat.le_of_lt hz))
            replace c0 := (N2.bel.cell (p := ⟨w.heap.size, 0, none⟩) hz).trans c0
            replace c1 := (N2.bel.cell (p := ⟨w.heap.size, 1, none⟩) hz).trans c1
            have d10 := (N2.bel.cell (p := ⟨g1, 0, none⟩) hg1).trans d10
            have d11 := (N2.bel.cell (p := ⟨g1, 1, none⟩) hg1).trans d11
            replace hg1 := Nat.lt_of_lt_of_le hg1 N2.bel.size
            have hg2 := N2.hi
            have hge2 : w.heap.size < g2 := Nat.lt_of_lt_of_le hz N2.lo
            replace hz := Nat.lt_of_lt_of_le hz N2.bel.size
            have d20 := N2.c0
            have d21 := N2.c1
            clear N2
            go_wp2_with fail
            refine (check_any _ _ _ _).mono ?_
            rintro e3 w3 ⟨rfl, hb3⟩
            replace hb0 := hb0.trans (hb3.mono (Nat.le_of_lt hz))
            replace c0 := (hb3.cell (p := ⟨w.heap.size, 0, none⟩) hz).trans c0
            replace c1 := (hb3.cell (p := ⟨w.heap.size, 1, none⟩) hz).trans c1
            replace d10 := (hb3.cell (p := ⟨g1, 0, none⟩) hg1).trans d10
            replace d11 := (hb3.cell (p := ⟨g1, 1, none⟩) hg1).trans d11
            replace d20 := (hb3.cell (p := ⟨g2, 0, none⟩) hg2).trans d20
            replace d21 := (hb3.cell (p := ⟨g2, 1, none⟩) hg2).trans d21
            replace hz := Nat.lt_of_lt_of_le hz hb3.size
            replace hg1 := Nat.lt_of_lt_of_le hg1 hb3.size
            replace hg2 := Nat.lt_of_lt_of_le hg2 hb3.size
            clear hb3
            go_wp2_with fail
            refine (rcheck_any _ _ _ _).mono ?_
            rintro e4 w4 ⟨rfl, hb4⟩
            replace hb0 := hb0.trans (hb4.mono (Nat.le_of_lt hz))
            replace c0 := (hb4.cell (p := ⟨w.heap.size, 0, none⟩) hz).trans c0
            replace c1 := (hb4.cell (p := ⟨w.heap.size, 1, none⟩) hz).trans c1
            replace d10 := (hb4.cell (p := ⟨g1, 0, none⟩) hg1).trans d10
            replace d11 := (hb4.cell (p := ⟨g1, 1, none⟩) hg1).trans d11
            replace d20 := (hb4.cell (p := ⟨g2, 0, none⟩) hg2).trans d20
            replace d21 := (hb4.cell (p := ⟨g2, 1, none⟩) hg2).trans d21
            replace hz := Nat.lt_of_lt_of_le hz hb4.size
            replace hg1 := Nat.lt_of_lt_of_le hg1 hb4.size
            replace hg2 := Nat.lt_of_lt_of_le hg2 hb4.size
            clear hb4
            go_wp2_with fail
            generalize (recS C E (cut a3 3)).1 = A at *
            generalize (recS C E (cut a3 3)).2.1 = B at *
            generalize (recS C E (cut a3 3)).2.2 = F at *
            go_region_held3 (fun w' => w'.cell? ⟨w.heap.size, 0, none⟩ = some (.int .i64 C) ∧ w'.cell? ⟨w.heap.size, 1, none⟩ = some (.int .i64 E) ∧ w'.cell? ⟨g1, 0, none⟩ = some (.int .i64 A) ∧ w'.cell? ⟨g1, 1, none⟩ = some (.int .i64 B) ∧ w'.cell? ⟨g2, 0, none⟩ = some (.int .i64 A) ∧ w'.cell? ⟨g2, 1, none⟩ = some (.int .i64 B)) (go_keep) (first | (go_at_call 10; refine (sample_any _ _ _).mono ?_; rintro e w' ⟨rfl, hb⟩; have l0 : w.heap.size < w'.heap.size := bnext (B := w.heap.size + 1) hb (by first | exact hz | assumption); have k00 := hb.cell (p := ⟨w.heap.size, 0, none⟩) (by first | exact hz | assumption); have k01 := hb.cell (p := ⟨w.heap.size, 1, none⟩) (by first | exact hz | assumption); have l1 : g1 < w'.heap.size := bnext (B := g1 + 1) hb (by first | exact hg1 | assumption); have k10 := hb.cell (p := ⟨g1, 0, none⟩) (by first | exact hg1 | assumption); have k11 := hb.cell (p := ⟨g1, 1, none⟩) (by first | exact hg1 | assumption); have l2 : g2 < w'.heap.size := bnext (B := g2 + 1) hb (by first | exact hg2 | assumption); have k20 := hb.cell (p := ⟨g2, 0, none⟩) (by first | exact hg2 | assumption); have k21 := hb.cell (p := ⟨g2, 1, none⟩) (by first | exact hg2 | assumption)) | (go_at_call 11; refine (rsample_any _ _ _).mono ?_; rintro e w' ⟨rfl, hb⟩; have l0 : w.heap.size < w'.heap.size := bnext (B := w.heap.size + 1) hb (by first | exact hz | assumption); have k00 := hb.cell (p := ⟨w.heap.size, 0, none⟩) (by first | exact hz | assumption); have k01 := hb.cell (p := ⟨w.heap.size, 1, none⟩) (by first | exact hz | assumption); have l1 : g1 < w'.heap.size := bnext (B := g1 + 1) hb (by first | exact hg1 | assumption); have k10 := hb.cell (p := ⟨g1, 0, none⟩) (by first | exact hg1 | assumption); have k11 := hb.cell (p := ⟨g1, 1, none⟩) (by first | exact hg1 | assumption); have l2 : g2 < w'.heap.size := bnext (B := g2 + 1) hb (by first | exact hg2 | assumption); have k20 := hb.cell (p := ⟨g2, 0, none⟩) (by first | exact hg2 | assumption); have k21 := hb.cell (p := ⟨g2, 1, none⟩) (by first | exact hg2 | assumption)) | (go_at_call 12; refine (pending_any _ _ _ _).mono ?_; rintro e w' ⟨rfl, hb⟩; have l0 : w.heap.size < w'.heap.size := bnext (B := w.heap.size + 1) hb (by first | exact hz | assumption); have k00 := hb.cell (p := ⟨w.heap.size, 0, none⟩) (by first | exact hz | assumption); have k01 := hb.cell (p := ⟨w.heap.size, 1, none⟩) (by first | exact hz | assumption); have l1 : g1 < w'.heap.size := bnext (B := g1 + 1) hb (by first | exact hg1 | assumption); have k10 := hb.cell (p := ⟨g1, 0, none⟩) (by first | exact hg1 | assumption); have k11 := hb.cell (p := ⟨g1, 1, none⟩) (by first | exact hg1 | assumption); have l2 : g2 < w'.heap.size := bnext (B := g2 + 1) hb (by first | exact hg2 | assumption); have k20 := hb.cell (p := ⟨g2, 0, none⟩) (by first | exact hg2 | assumption); have k21 := hb.cell (p := ⟨g2, 1, none⟩) (by first | exact hg2 | assumption)) | (go_at_call 13; refine (rpending_pen _ _ _ _).mono ?_; rintro e w' ⟨rfl, hb⟩; have l0 : w.heap.size < w'.heap.size := bnext (B := w.heap.size + 1) hb (by first | exact hz | assumption); have k00 := hb.cell (p := ⟨w.heap.size, 0, none⟩) (by first | exact hz | assumption); have k01 := hb.cell (p := ⟨w.heap.size, 1, none⟩) (by first | exact hz | assumption); have l1 : g1 < w'.heap.size := bnext (B := g1 + 1) hb (by first | exact hg1 | assumption); have k10 := hb.cell (p := ⟨g1, 0, none⟩) (by first | exact hg1 | assumption); have k11 := hb.cell (p := ⟨g1, 1, none⟩) (by first | exact hg1 | assumption); have l2 : g2 < w'.heap.size := bnext (B := g2 + 1) hb (by first | exact hg2 | assumption); have k20 := hb.cell (p := ⟨g2, 0, none⟩) (by first | exact hg2 | assumption); have k21 := hb.cell (p := ⟨g2, 1, none⟩) (by first | exact hg2 | assumption)) | (go_at_call 14; refine (awake_any _).mono ?_; rintro e w' ⟨rfl, hb⟩; have l0 : w.heap.size < w'.heap.size := bnext (B := w.heap.size + 1) hb (by first | exact hz | assumption); have k00 := hb.cell (p := ⟨w.heap.size, 0, none⟩) (by first | exact hz | assumption); have k01 := hb.cell (p := ⟨w.heap.size, 1, none⟩) (by first | exact hz | assumption); have l1 : g1 < w'.heap.size := bnext (B := g1 + 1) hb (by first | exact hg1 | assumption); have k10 := hb.cell (p := ⟨g1, 0, none⟩) (by first | exact hg1 | assumption); have k11 := hb.cell (p := ⟨g1, 1, none⟩) (by first | exact hg1 | assumption); have l2 : g2 < w'.heap.size := bnext (B := g2 + 1) hb (by first | exact hg2 | assumption); have k20 := hb.cell (p := ⟨g2, 0, none⟩) (by first | exact hg2 | assumption); have k21 := hb.cell (p := ⟨g2, 1, none⟩) (by first | exact hg2 | assumption)))
            all_goals
              go_wp2
              go_ret
              refine RetW.mk (by first | rfl | simp [Act.put]) ?_
              repeat (first | exact hb0.drew | refine Below.trans ?_ (Below.mono (by assumption) (by first | omega | exact Nat.le_of_lt hz)))
end Go.Proofs.Ytmbhenafiglakaa
