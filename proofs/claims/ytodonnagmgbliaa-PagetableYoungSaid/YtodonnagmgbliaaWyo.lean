/- The walk of PagetableYoung. -/
import Derived.Test.YtodonnagmgbliaaAwk
namespace Go.Proofs.Ytodonnagmgbliaa
open Go.ChangeShapes Go.WideShapes Go.ChangeAt Go.RowKit

theorem youF_idem (f : Int) (x : Ar) : youF f (youF f x) = youF f x := by
  unfold youF
  by_cases h : x.fr = f
  · rw [if_pos h]; rw [if_pos h]
  · rw [if_neg h, if_neg h]
theorem proF_idem (f : Int) (x : Ar) : proF f (proF f x) = proF f x := by
  unfold proF
  by_cases h : x.fr = f
  · rw [if_pos h]; rw [if_pos h]
  · rw [if_neg h, if_neg h]
theorem acB_youF (f : Int) (x : Ar) : acB f (youF f x) = false := by
  unfold acB frB youF
  by_cases h : x.fr = f
  · rw [if_pos h]; simp
  · rw [if_neg h]; simp [h]
theorem any_succ {l : List Ar} {p : Ar → Bool} {k : Nat} (h : k < l.length) : (l.take (k + 1)).any p = ((l.take k).any p || p (l.getD k Ar.zero)) := by
  rw [take_succ_get h, List.any_append, getD_get h]; simp

set_option maxRecDepth 100000 in
set_option maxHeartbeats 16000000 in
theorem young_walk (a0 : Option Addr) (len0 cap0 : Nat) (a1 : Int) (w : World) (ha : ArgRow w a0 len0) (hl : len0 ≤ maxLen) :
    Calls Try.prog 6 #[.slice a0 len0 cap0, .int .i64 a1] w (RetW (.bool true) w) := by
  have HT : Hid (TP w w.heap.size a0 len0 cap0 (w.alloc (.cells #[.slice a0 len0 cap0, .int .i64 0] 25))) := tape_start w a0 len0 cap0 ha hl
  go_enter Try.func6, Try.ntmps6
  go_wp2_with fail
  generalize w.alloc (.cells #[.slice a0 len0 cap0, .int .i64 0] 25) = w1 at *
  refine (ptes_any _ _ _ _ _ _ HT.out).mono ?_
  rintro e w2 ⟨b, c, l, rfl, hc, hl8, hr, hk, tp⟩
  have HB := Lib.hid (tp.bel)
  have HX0 := Lib.hid (hr.mono (Nat.zero_le _))
  have HC := Lib.hid hc
  clear HT hk tp hr hc
  go_wp2_with fail
  refine (cut_any _ _ _ (by omega) (by omega)).mono ?_; rintro e w3 ⟨rfl, rfl⟩
  have hf0 := rnd_lo a1 4 (by omega)
  have hf1 := rnd_hi a1 4 (by omega)
  generalize rnd a1 4 = f0 at *
  have hwf : IntKind.i64.wrap (1 + f0) = 1 + f0 := IntWalk.i64_in _ (by omega)
  have HX : Hid (∀ W, Below w2.heap.size w2 W → ∀ j, j < (l).length → ∃ g, b = some ⟨g, 0, none⟩ ∧ g < w2.heap.size ∧ ((l).length : Int) ≤ c ∧ Cel W g (j * 5) ((l).getD j Ar.zero)) := fun W hb j hj => by
    obtain ⟨g, h1, _, h3, h4, _, h6⟩ := HX0.out.at (by omega)
    exact ⟨g, h1, h3, by omega, (h6 j hj).eq (fun i => hb.cell (p := ⟨g, i, none⟩) h3)⟩
  have hY0 : ∃ Y, Y = youB l (1 + f0) := ⟨_, rfl⟩
  have HYB : Hid (youB l (1 + f0) = l.any (acB (1 + f0))) := by unfold Hid youB; rw [HC.out]; rfl
  go_wp2_with fail
  generalize 1 + f0 = f at *
  clear hY0
  go_loopw [7, 8] (fun v7 v8 wr => ∃ k : Nat, k ≤ l.length ∧ v8 = .int .i64 k ∧ v7 = .bool ((l.take k).any (acB f)) ∧ wr = w2) (fun _ v8 _ => 100 - (intOf v8).toNat)
  case atStart => exact ⟨0, Nat.zero_le _, rfl, rfl, rfl⟩
  case round =>
    obtain ⟨k, hk, rfl, rfl, rfl⟩ := hrel
    by_cases hlt : k < l.length
    · have hlt' : (k : Int) < (l.length : Int) := by omega
      obtain ⟨gx, rfl, hgx, hcx, hxc⟩ := HX.out _ (Below.refl _ _) k hlt
      have HAN := Lib.hid (any_succ (p := acB f) hlt)
      clear HX
      generalize (l.take k).any (acB f) = yb at *
      generalize l.getD k Ar.zero = e at *
      obtain ⟨s, c0, fr, p, q⟩ := e
      obtain ⟨k0, k1, k2, k3, k4⟩ := hxc
      simp only at k0 k1 k2 k3 k4
      have HAB : Hid (acB f ⟨s, c0, fr, p, q⟩ = (decide (fr = f) && q)) := rfl
      rw [HAB.out] at HAN
      clear HAB
      cases yb with
      | true =>
        have HV : Hid ((l.take (k + 1)).any (acB f) = true) := by unfold Hid; rw [HAN.out]; rfl
        go_wp2_with fail
        go_roundw
        case rel => exact ⟨k + 1, by omega, by go_num, by rw [HV.out], trivial⟩
        case measure => simp [intOf]; omega
      | false =>
        by_cases hfe : fr = f
        · subst hfe
          have HV : Hid ((l.take (k + 1)).any (acB fr) = q) := by unfold Hid; rw [HAN.out]; simp
          go_wp2_with fail
          go_roundw
          case rel => exact ⟨k + 1, by omega, by go_num, by rw [HV.out], trivial⟩
          case measure => simp [intOf]; omega
        · have HV : Hid ((l.take (k + 1)).any (acB f) = false) := by unfold Hid; rw [HAN.out]; simp [hfe]
          have hfe2 : (fr == f) = false := by simpa using hfe
          go_wp2_with fail
          go_roundw
          case rel => exact ⟨k + 1, by omega, by go_num, by rw [HV.out], trivial⟩
          case measure => simp [intOf]; omega
    · obtain rfl : k = l.length := by omega
      rw [List.take_length, ← HYB.out]
      clear HX
      go_wp2_with fail
      refine (young_any f 0 b l c _ HX0.out (by omega)).mono ?_; rintro e w4 ⟨b7, c7, rfl, hr, hb⟩
      replace HB := Lib.hid (HB.out.trans (hb.mono HB.out.size))
      replace HX0 := Lib.hid (HX0.out.below hb)
      have HM0 := Lib.hid (hr.mono (Nat.zero_le _))
      clear hr hb
      have eM : mapL l (youF f) = l.map (youF f) := by unfold mapL; rw [if_pos HC.out]
      rw [eM] at HM0 ⊢
      clear eM
      have HCM : Hid (checkV (l.map (youF f)) = true) := check_map (youF_keys f) HC.out
      have HML : Hid ((l.map (youF f)).length = l.length) := by unfold Hid; simp
      have HY2 : Hid (youB (l.map (youF f)) f = false) := by
        unfold Hid youB
        rw [HCM.out, Bool.true_and, List.any_map, List.any_eq_false]
        intro x _
        show ¬ acB f (youF f x) = true
        rw [acB_youF]; simp
      have HM2 : Hid (mapL (l.map (youF f)) (youF f) = l.map (youF f)) := by
        unfold Hid mapL
        rw [if_pos HCM.out, List.map_map]
        exact List.map_congr_left (fun x _ => youF_idem f x)
      have HMG : Hid (∀ j, j < l.length → (l.map (youF f)).getD j Ar.zero = youF f (l.getD j Ar.zero)) := fun j hj => by rw [getD_get (by simpa using hj), getD_get hj]; simp
      generalize l.map (youF f) = M at *
      have hml : M.length ≤ 8 := by rw [HML.out]; exact hl8
      go_wp2_with fail
      refine (young_any f 0 b7 M c7 _ HM0.out (by omega)).mono ?_
      rw [HM2.out, HY2.out]
      rintro e w5 ⟨b8, c8, rfl, hr, hb⟩
      replace HB := Lib.hid (HB.out.trans (hb.mono HB.out.size))
      replace HX0 := Lib.hid (HX0.out.below hb)
      replace HM0 := Lib.hid (HM0.out.below hb)
      have HS := Lib.hid (same_any 0 _ b7 b8 M c7 c8 w5 HM0.out hr (by omega))
      clear hr hb HM2 HY2 HYB
      generalize youB l f = Y at *
      have hyy : (Y != Y) = false := by simp
      have hms : (M.length : Int) = (l.length : Int) := by have := HML.out; omega
      go_wp2_with fail
      refine HS.out.mono ?_; rintro e w6 ⟨rfl, hb⟩
      replace HB := Lib.hid (HB.out.trans (hb.mono HB.out.size))
      replace HX0 := Lib.hid (HX0.out.below hb)
      replace HM0 := Lib.hid (HM0.out.below hb)
      clear hb HS
      have HX : Hid (∀ W, Below w6.heap.size w6 W → ∀ j, j < (l).length → ∃ g, b = some ⟨g, 0, none⟩ ∧ g < w6.heap.size ∧ ((l).length : Int) ≤ c ∧ Cel W g (j * 5) ((l).getD j Ar.zero)) := fun W hb j hj => by
        obtain ⟨g, h1, _, h3, h4, _, h6⟩ := HX0.out.at (by omega)
        exact ⟨g, h1, h3, by omega, (h6 j hj).eq (fun i => hb.cell (p := ⟨g, i, none⟩) h3)⟩
      have HM : Hid (∀ W, Below w6.heap.size w6 W → ∀ j, j < (M).length → ∃ g, b7 = some ⟨g, 0, none⟩ ∧ g < w6.heap.size ∧ ((M).length : Int) ≤ c7 ∧ Cel W g (j * 5) ((M).getD j Ar.zero)) := fun W hb j hj => by
        obtain ⟨g, h1, _, h3, h4, _, h6⟩ := HM0.out.at (by omega)
        exact ⟨g, h1, h3, by omega, (h6 j hj).eq (fun i => hb.cell (p := ⟨g, i, none⟩) h3)⟩
      clear HM0
      go_wp2_with fail
      clear hms hml
      go_loopw [13] (fun v13 wr => ∃ j : Nat, j ≤ l.length ∧ v13 = .int .i64 j ∧ Hid (Below w6.heap.size w6 wr)) (fun v13 _ => 100 - (intOf v13).toNat)
      case atStart => exact ⟨0, Nat.zero_le _, rfl, Below.refl _ _⟩
      case round =>
        obtain ⟨j, hj, rfl, HW⟩ := hrel
        by_cases hlt : j < l.length
        · have hlt' : (j : Int) < (l.length : Int) := by omega
          obtain ⟨gx, rfl, hgx, hcx, hxc⟩ := HX.out _ HW.out j hlt
          obtain ⟨gm, rfl, hgm, hcm, hmc⟩ := HM.out _ HW.out j (by rw [HML.out]; exact hlt)
          rw [HMG.out j hlt] at hmc
          have hjm : (j : Int) < (M.length : Int) := by rw [HML.out]; exact hlt'
          clear HX HM HMG
          generalize l.getD j Ar.zero = e at *
          obtain ⟨s, c0, fr, p, q⟩ := e
          obtain ⟨k0, k1, k2, k3, k4⟩ := hxc
          simp only at k0 k1 k2 k3 k4
          have HPF : Hid (youF f ⟨s, c0, fr, p, q⟩ = if fr = f then ⟨s, c0, fr, p, false⟩ else ⟨s, c0, fr, p, q⟩) := rfl
          rw [HPF.out] at hmc
          clear HPF
          have hga := HW.out.size
          by_cases hfe : fr = f
          · rw [if_pos hfe] at hmc
            obtain ⟨m0, m1, m2, m3, m4⟩ := hmc
            simp only at m0 m1 m2 m3 m4
            subst hfe
            have hbl := Blk.new wr s c0 fr p q
            have HW2 : Hid (Below w6.heap.size w6 (wr.alloc (Obj.cells #[Value.int IntKind.i64 s, Value.int IntKind.i64 c0, Value.int IntKind.i64 fr, Value.bool p, Value.bool q] 30))) := HW.out.alloc hga _
            go_upto_region 16 with (fail)
            have hcl : ∀ g o v, g < wr.heap.size → wr.cell? ⟨g, o, none⟩ = some v → (wr.alloc (Obj.cells #[Value.int IntKind.i64 s, Value.int IntKind.i64 c0, Value.int IntKind.i64 fr, Value.bool p, Value.bool q] 30)).cell? ⟨g, o, none⟩ = some v := fun g o v hg h => by rw [← h]; exact World.cell?_alloc_lt _ _ _ hg
            replace k0 := hcl gx _ _ (by omega) k0; replace k1 := hcl gx _ _ (by omega) k1; replace k2 := hcl gx _ _ (by omega) k2; replace k3 := hcl gx _ _ (by omega) k3; replace k4 := hcl gx _ _ (by omega) k4
            replace m0 := hcl gm _ _ (by omega) m0; replace m1 := hcl gm _ _ (by omega) m1; replace m2 := hcl gm _ _ (by omega) m2; replace m3 := hcl gm _ _ (by omega) m3; replace m4 := hcl gm _ _ (by omega) m4
            clear hcl
            generalize wr.alloc (Obj.cells #[Value.int IntKind.i64 s, Value.int IntKind.i64 c0, Value.int IntKind.i64 fr, Value.bool p, Value.bool q] 30) = w7 at *
            have hgmA : gm ≠ wr.heap.size := by omega
            have hlw : w6.heap.size ≤ wr.heap.size := hga
            generalize wr.heap.size = A at *
            obtain ⟨c0', c1', c2', c3', c4'⟩ := (⟨hbl.c0, hbl.c1, hbl.c2, hbl.c3, hbl.c4⟩ : Cel w7 A 0 ⟨s, c0, fr, p, q⟩)
            simp only [Nat.zero_add] at c0' c1' c2' c3' c4'
            have hfz := hbl.f 4 (by omega)
            clear hga hgx hgm
            go_wp2_with fail
            go_quiet (fail)
            go_wp2_with fail
            go_roundw
            case rel => exact ⟨j + 1, by omega, by go_num, below_drewN (HW2.out.setCell (p := ⟨A, 4, none⟩) hlw _) _⟩
            case measure => simp [intOf]; omega
          · rw [if_neg hfe] at hmc
            obtain ⟨m0, m1, m2, m3, m4⟩ := hmc
            simp only at m0 m1 m2 m3 m4
            have hfe2 : (fr == f) = false := by simpa using hfe
            have hbl := Blk.new wr s c0 fr p q
            have HW2 : Hid (Below w6.heap.size w6 (wr.alloc (Obj.cells #[Value.int IntKind.i64 s, Value.int IntKind.i64 c0, Value.int IntKind.i64 fr, Value.bool p, Value.bool q] 30))) := HW.out.alloc hga _
            go_upto_region 16 with (fail)
            have hcl : ∀ g o v, g < wr.heap.size → wr.cell? ⟨g, o, none⟩ = some v → (wr.alloc (Obj.cells #[Value.int IntKind.i64 s, Value.int IntKind.i64 c0, Value.int IntKind.i64 fr, Value.bool p, Value.bool q] 30)).cell? ⟨g, o, none⟩ = some v := fun g o v hg h => by rw [← h]; exact World.cell?_alloc_lt _ _ _ hg
            replace k0 := hcl gx _ _ (by omega) k0; replace k1 := hcl gx _ _ (by omega) k1; replace k2 := hcl gx _ _ (by omega) k2; replace k3 := hcl gx _ _ (by omega) k3; replace k4 := hcl gx _ _ (by omega) k4
            replace m0 := hcl gm _ _ (by omega) m0; replace m1 := hcl gm _ _ (by omega) m1; replace m2 := hcl gm _ _ (by omega) m2; replace m3 := hcl gm _ _ (by omega) m3; replace m4 := hcl gm _ _ (by omega) m4
            clear hcl
            generalize wr.alloc (Obj.cells #[Value.int IntKind.i64 s, Value.int IntKind.i64 c0, Value.int IntKind.i64 fr, Value.bool p, Value.bool q] 30) = w7 at *
            have hgmA : gm ≠ wr.heap.size := by omega
            have hlw : w6.heap.size ≤ wr.heap.size := hga
            generalize wr.heap.size = A at *
            obtain ⟨c0', c1', c2', c3', c4'⟩ := (⟨hbl.c0, hbl.c1, hbl.c2, hbl.c3, hbl.c4⟩ : Cel w7 A 0 ⟨s, c0, fr, p, q⟩)
            simp only [Nat.zero_add] at c0' c1' c2' c3' c4'
            have hfz := hbl.f 4 (by omega)
            clear hga hgx hgm
            go_wp2_with fail
            go_quiet (fail)
            go_wp2_with fail
            go_roundw
            case rel => exact ⟨j + 1, by omega, by go_num, below_drewN HW2.out _⟩
            case measure => simp [intOf]; omega
        · obtain rfl : j = l.length := by omega
          have HB2 := Lib.hid (HB.out.trans (HW.out.mono HB.out.size))
          have HX1 := Lib.hid (HX0.out.below HW.out)
          clear HX HM HMG
          go_wp2_with fail
          refine (protect_any f 0 b l c _ HX1.out (by omega)).mono ?_; rintro e w8 ⟨b9, c9, rfl, hr, hb⟩
          replace HB2 := Lib.hid (HB2.out.trans (hb.mono HB2.out.size))
          have HP0 := Lib.hid (hr.mono (Nat.zero_le _))
          clear hr hb
          have eP : mapL l (proF f) = l.map (proF f) := by unfold mapL; rw [if_pos HC.out]
          rw [eP] at HP0 ⊢
          clear eP
          have HCP : Hid (checkV (l.map (proF f)) = true) := check_map (proF_keys f) HC.out
          have HPL : Hid ((l.map (proF f)).length = l.length) := by unfold Hid; simp
          have HP2 : Hid (mapL (l.map (proF f)) (proF f) = l.map (proF f)) := by
            unfold Hid mapL
            rw [if_pos HCP.out, List.map_map]
            exact List.map_congr_left (fun x _ => proF_idem f x)
          generalize l.map (proF f) = P at *
          have hpl : P.length ≤ 8 := by rw [HPL.out]; exact hl8
          go_wp2_with fail
          refine (protect_any f 0 b9 P c9 _ HP0.out (by omega)).mono ?_
          rw [HP2.out]
          rintro e w9 ⟨b10, c10, rfl, hr, hb⟩
          replace HB2 := Lib.hid (HB2.out.trans (hb.mono HB2.out.size))
          have HS := Lib.hid (same_any _ 0 b10 b9 P c10 c9 w9 hr (HP0.out.below hb) (by omega))
          clear hr hb HP2
          go_wp2_with fail
          refine HS.out.mono ?_; rintro e w10 ⟨rfl, hb⟩
          replace HB2 := Lib.hid (HB2.out.trans (hb.mono HB2.out.size))
          clear hb HS
          go_wp2_with fail
          refine (awake_any _).mono ?_; rintro e w11 ⟨rfl, hb⟩
          go_wp2_with fail
          go_ret
          exact RetW.mk rfl (HB2.out.trans (hb.mono HB2.out.size))
end Go.Proofs.Ytodonnagmgbliaa
