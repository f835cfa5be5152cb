/- The walk of PagetableReverse. -/
import Derived.Test.YtodonnagmgbliaaAwk
namespace Go.Proofs.Ytodonnagmgbliaa
open Go.ChangeShapes Go.WideShapes Go.ChangeAt Go.RowKit

def fTo (p : Ar → Bool) (l : List Ar) (j : Nat) : Nat := ((l.take j).filter p).length
theorem fTo_hit {p : Ar → Bool} {l : List Ar} {j : Nat} (hj : j < l.length) (hp : p (l.getD j Ar.zero) = true) : fTo p l (j + 1) = fTo p l j + 1 ∧ fTo p l j < (l.filter p).length ∧ (l.filter p).getD (fTo p l j) Ar.zero = l.getD j Ar.zero := by
  rw [getD_get hj] at hp ⊢
  have h1 : l.filter p = (l.take j).filter p ++ l[j] :: (l.drop (j + 1)).filter p := by
    conv => lhs; rw [← List.take_append_drop j l, ← List.getElem_cons_drop hj, List.filter_append, List.filter_cons, if_pos hp]
  refine ⟨?_, ?_, ?_⟩
  · unfold fTo
    rw [take_succ_get hj, List.filter_append, List.filter_cons, if_pos hp]
    simp
  · rw [h1]; unfold fTo; simp
  · rw [h1]; unfold fTo
    rw [getD_get (by simp)]
    simp
theorem fTo_miss {p : Ar → Bool} {l : List Ar} {j : Nat} (hj : j < l.length) (hp : p (l.getD j Ar.zero) = false) : fTo p l (j + 1) = fTo p l j := by
  rw [getD_get hj] at hp
  unfold fTo
  rw [take_succ_get hj, List.filter_append, List.filter_cons, if_neg (by rw [hp]; simp)]
  simp
theorem filter_sum (p : Ar → Bool) (l : List Ar) : (l.filter p).length + (l.filter (fun x => !p x)).length = l.length := by
  induction l with
  | nil => rfl
  | cons x r ih => simp only [List.filter_cons]; cases p x <;> simp <;> omega

set_option maxRecDepth 100000 in
set_option maxHeartbeats 16000000 in
theorem reverse_walk (a0 : Option Addr) (len0 cap0 : Nat) (a1 : Int) (w : World) (ha : ArgRow w a0 len0) (hl : len0 ≤ maxLen) :
    Calls Try.prog 4 #[.slice a0 len0 cap0, .int .i64 a1] w (RetW (.bool true) w) := by
  have HT : Hid (TP w w.heap.size a0 len0 cap0 (w.alloc (.cells #[.slice a0 len0 cap0, .int .i64 0] 25))) := tape_start w a0 len0 cap0 ha hl
  go_enter Try.func4, Try.ntmps4
  go_wp2_with fail
  generalize w.alloc (.cells #[.slice a0 len0 cap0, .int .i64 0] 25) = w1 at *
  refine (ptes_any _ _ _ _ _ _ HT.out).mono ?_
  rintro e w2 ⟨b, c, l, rfl, hc, hl8, hr, hk, tp⟩
  have HB := Lib.hid (tp.bel)
  have HX0 := Lib.hid (hr.mono (Nat.zero_le _))
  have HC := Lib.hid hc
  clear HT hk tp hr hc
  go_wp2_with fail
  refine (cut_any _ _ _ (by omega) (by omega)).mono ?_; rintro e w3 ⟨rfl, rfl⟩
  have hf0 := rnd_lo a1 4 (by omega)
  have hf1 := rnd_hi a1 4 (by omega)
  generalize rnd a1 4 = f0 at *
  have hwf : IntKind.i64.wrap (1 + f0) = 1 + f0 := IntWalk.i64_in _ (by omega)
  go_wp2_with fail
  generalize 1 + f0 = f at *
  refine (of_any f 0 b l c _ HX0.out (by omega)).mono ?_; rintro e w4 ⟨b7, c7, rfl, hr, hb⟩
  replace HB := Lib.hid (HB.out.trans (hb.mono HB.out.size))
  replace HX0 := Lib.hid (HX0.out.below hb)
  have HP0 := Lib.hid (hr.mono (Nat.zero_le _))
  clear hr hb
  go_wp2_with fail
  refine (drop_any f 0 b l c _ HX0.out (by omega)).mono ?_; rintro e w5 ⟨b8, c8, rfl, hr, hb⟩
  replace HB := Lib.hid (HB.out.trans (hb.mono HB.out.size))
  replace HX0 := Lib.hid (HX0.out.below hb)
  replace HP0 := Lib.hid (HP0.out.below hb)
  have HQ0 := Lib.hid (hr.mono (Nat.zero_le _))
  clear hr hb
  go_wp2_with fail
  refine (protect_any f 0 b l c _ HX0.out (by omega)).mono ?_; rintro e w5b ⟨b9, c9, rfl, hr, hb⟩
  replace HB := Lib.hid (HB.out.trans (hb.mono HB.out.size))
  replace HX0 := Lib.hid (HX0.out.below hb)
  replace HP0 := Lib.hid (HP0.out.below hb)
  replace HQ0 := Lib.hid (HQ0.out.below hb)
  have HM0 := Lib.hid (hr.mono (Nat.zero_le _))
  clear hr hb
  have eP : ofL l f = l.filter (frB f) := by unfold ofL; rw [if_pos HC.out]
  have eQ : cutL l (frB f) = l.filter (fun x => !frB f x) := by unfold cutL; rw [if_pos HC.out]
  have eM : mapL l (proF f) = l.map (proF f) := by unfold mapL; rw [if_pos HC.out]
  rw [eP] at HP0 ⊢
  rw [eQ] at HQ0 ⊢
  rw [eM] at HM0 ⊢
  clear eP eQ eM
  have HSUM := Lib.hid (filter_sum (frB f) l)
  have HML : Hid ((l.map (proF f)).length = l.length) := by unfold Hid; simp
  have HCQ : Hid (checkV (l.filter (fun x => !frB f x)) = true) := check_filter _ HC.out
  have HEQ : Hid (ofL (l.filter (fun x => !frB f x)) f = []) := by
    unfold Hid ofL
    rw [if_pos HCQ.out, List.filter_filter]
    exact List.filter_eq_nil_iff.2 (fun x _ => by cases frB f x <;> simp)
  have HFP : Hid (∀ j, j < l.length → frB f (l.getD j Ar.zero) = true → fTo (frB f) l (j + 1) = fTo (frB f) l j + 1 ∧ fTo (frB f) l j < (l.filter (frB f)).length ∧ (l.filter (frB f)).getD (fTo (frB f) l j) Ar.zero = l.getD j Ar.zero) := fun j hj hp => fTo_hit hj hp
  have HFM : Hid (∀ j, j < l.length → frB f (l.getD j Ar.zero) = false → fTo (frB f) l (j + 1) = fTo (frB f) l j) := fun j hj hp => fTo_miss hj hp
  have HGP : Hid (∀ j, j < l.length → frB f (l.getD j Ar.zero) = false → fTo (fun x => !frB f x) l (j + 1) = fTo (fun x => !frB f x) l j + 1 ∧ fTo (fun x => !frB f x) l j < (l.filter (fun x => !frB f x)).length ∧ (l.filter (fun x => !frB f x)).getD (fTo (fun x => !frB f x) l j) Ar.zero = l.getD j Ar.zero) := fun j hj hp => fTo_hit hj (by rw [hp]; rfl)
  have HGM : Hid (∀ j, j < l.length → frB f (l.getD j Ar.zero) = true → fTo (fun x => !frB f x) l (j + 1) = fTo (fun x => !frB f x) l j) := fun j hj hp => fTo_miss hj (by rw [hp]; rfl)
  have HMG : Hid (∀ j, j < l.length → (l.map (proF f)).getD j Ar.zero = proF f (l.getD j Ar.zero)) := fun j hj => by rw [getD_get (by simpa using hj), getD_get hj]; simp
  have hFl : ∀ j, fTo (frB f) l j ≤ 8 := fun j => by
    have h1 := List.length_filter_le (frB f) (l.take j)
    have h2 := List.length_take_le' j l
    unfold fTo; omega
  have hGl : ∀ j, fTo (fun x => !frB f x) l j ≤ 8 := fun j => by
    have h1 := List.length_filter_le (fun x => !frB f x) (l.take j)
    have h2 := List.length_take_le' j l
    unfold fTo; omega
  have HF0 : Hid (fTo (frB f) l 0 = 0 ∧ fTo (fun x => !frB f x) l 0 = 0) := ⟨rfl, rfl⟩
  generalize hPP : l.filter (frB f) = P at *
  generalize hQQ : l.filter (fun x => !frB f x) = Q at *
  generalize hMM : l.map (proF f) = M at *
  clear hPP hQQ hMM
  generalize hFF : fTo (frB f) l = F at *
  generalize hGG : fTo (fun x => !frB f x) l = G at *
  clear hFF hGG
  have HFL := Lib.hid hFl
  have HGL := Lib.hid hGl
  clear hFl hGl
  have hps : ((P.length : Int) + (Q.length : Int)) = (l.length : Int) := by have := HSUM.out; omega
  have hms : (M.length : Int) = (l.length : Int) := by have := HML.out; omega
  have hpl : P.length ≤ 8 := by omega
  have hql : Q.length ≤ 8 := by omega
  have hwl : IntKind.i64.wrap ((P.length : Int) + (Q.length : Int)) = (P.length : Int) + (Q.length : Int) := IntWalk.i64_in _ (by omega)
  go_wp2_with fail
  refine (check_any 0 b8 Q c8 _ HQ0.out (by omega)).mono ?_; rintro e w6 ⟨rfl, hb⟩
  replace HB := Lib.hid (HB.out.trans (hb.mono HB.out.size))
  replace HX0 := Lib.hid (HX0.out.below hb)
  replace HP0 := Lib.hid (HP0.out.below hb)
  replace HQ0 := Lib.hid (HQ0.out.below hb)
  replace HM0 := Lib.hid (HM0.out.below hb)
  clear hb
  rw [HCQ.out]
  have HX : Hid (∀ W, Below w6.heap.size w6 W → ∀ j, j < (l).length → ∃ g, b = some ⟨g, 0, none⟩ ∧ g < w6.heap.size ∧ ((l).length : Int) ≤ c ∧ Cel W g (j * 5) ((l).getD j Ar.zero)) := fun W hb j hj => by
    obtain ⟨g, h1, _, h3, h4, _, h6⟩ := HX0.out.at (by omega)
    exact ⟨g, h1, h3, by omega, (h6 j hj).eq (fun i => hb.cell (p := ⟨g, i, none⟩) h3)⟩
  have HP : Hid (∀ W, Below w6.heap.size w6 W → ∀ j, j < (P).length → ∃ g, b7 = some ⟨g, 0, none⟩ ∧ g < w6.heap.size ∧ ((P).length : Int) ≤ c7 ∧ Cel W g (j * 5) ((P).getD j Ar.zero)) := fun W hb j hj => by
    obtain ⟨g, h1, _, h3, h4, _, h6⟩ := HP0.out.at (by omega)
    exact ⟨g, h1, h3, by omega, (h6 j hj).eq (fun i => hb.cell (p := ⟨g, i, none⟩) h3)⟩
  have HQ : Hid (∀ W, Below w6.heap.size w6 W → ∀ j, j < (Q).length → ∃ g, b8 = some ⟨g, 0, none⟩ ∧ g < w6.heap.size ∧ ((Q).length : Int) ≤ c8 ∧ Cel W g (j * 5) ((Q).getD j Ar.zero)) := fun W hb j hj => by
    obtain ⟨g, h1, _, h3, h4, _, h6⟩ := HQ0.out.at (by omega)
    exact ⟨g, h1, h3, by omega, (h6 j hj).eq (fun i => hb.cell (p := ⟨g, i, none⟩) h3)⟩
  have HM : Hid (∀ W, Below w6.heap.size w6 W → ∀ j, j < (M).length → ∃ g, b9 = some ⟨g, 0, none⟩ ∧ g < w6.heap.size ∧ ((M).length : Int) ≤ c9 ∧ Cel W g (j * 5) ((M).getD j Ar.zero)) := fun W hb j hj => by
    obtain ⟨g, h1, _, h3, h4, _, h6⟩ := HM0.out.at (by omega)
    exact ⟨g, h1, h3, by omega, (h6 j hj).eq (fun i => hb.cell (p := ⟨g, i, none⟩) h3)⟩
  clear HX0 HP0 HM0
  clear hps hwl hms hpl hql
  go_wp2_with fail
  go_loopw [10, 11, 12] (fun v10 v11 v12 wr => ∃ j : Nat, j ≤ l.length ∧ v12 = .int .i64 j ∧ v10 = .int .i64 (F j) ∧ v11 = .int .i64 (G j) ∧ Hid (Below w6.heap.size w6 wr)) (fun _ _ v12 _ => 100 - (intOf v12).toNat)
  case atStart => exact ⟨0, Nat.zero_le _, rfl, by rw [HF0.out.1]; rfl, by rw [HF0.out.2]; rfl, Below.refl _ _⟩
  case round =>
    obtain ⟨j, hj, rfl, rfl, rfl, HW⟩ := hrel
    by_cases hlt : j < l.length
    · have hlt' : (j : Int) < (l.length : Int) := by omega
      obtain ⟨gx, rfl, hgx, hcx, hxc⟩ := HX.out _ HW.out j hlt
      obtain ⟨gm, rfl, hgm, hcm, hmc⟩ := HM.out _ HW.out j (by rw [HML.out]; exact hlt)
      rw [HML.out] at hcm
      rw [HMG.out j hlt] at hmc
      have HFPj := Lib.hid (HFP.out j hlt); have HFMj := Lib.hid (HFM.out j hlt); have HGPj := Lib.hid (HGP.out j hlt); have HGMj := Lib.hid (HGM.out j hlt)
      have hfl := HFL.out j
      have hgl := HGL.out j
      have HMLj : Hid ((M.length : Int) = (l.length : Int)) := by unfold Hid; rw [HML.out]
      have hjm : (j : Int) < (M.length : Int) := by rw [HMLj.out]; exact hlt'
      have hcm2 : (M.length : Int) ≤ c9 := by rw [HMLj.out]; exact hcm
      have HPI : Hid (F j < P.length → P.getD (F j) Ar.zero = l.getD j Ar.zero → ∃ g, b7 = some ⟨g, 0, none⟩ ∧ (P.length : Int) ≤ c7 ∧ g < w6.heap.size ∧ Cel wr g (F j * 5) (l.getD j Ar.zero)) := fun h1 h2 => by
        obtain ⟨g, e1, e2, e3, e4⟩ := HP.out _ HW.out _ h1
        rw [h2] at e4
        exact ⟨g, e1, e3, e2, e4⟩
      have HQI : Hid (G j < Q.length → Q.getD (G j) Ar.zero = l.getD j Ar.zero → ∃ g, b8 = some ⟨g, 0, none⟩ ∧ (Q.length : Int) ≤ c8 ∧ g < w6.heap.size ∧ Cel wr g (G j * 5) (l.getD j Ar.zero)) := fun h1 h2 => by
        obtain ⟨g, e1, e2, e3, e4⟩ := HQ.out _ HW.out _ h1
        rw [h2] at e4
        exact ⟨g, e1, e3, e2, e4⟩
      clear HX HM HP HQ HFP HFM HGP HGM HFL HGL HMG HF0 HSUM HML
      generalize l.getD j Ar.zero = e at *
      obtain ⟨s, c0, fr, p, q⟩ := e
      obtain ⟨k0, k1, k2, k3, k4⟩ := hxc
      simp only at k0 k1 k2 k3 k4
      have HPF : Hid (proF f ⟨s, c0, fr, p, q⟩ = if fr = f then ⟨s, c0, fr, false, q⟩ else ⟨s, c0, fr, p, q⟩) := rfl
      rw [HPF.out] at hmc
      clear HPF
      have HBE : Hid (frB f ⟨s, c0, fr, p, q⟩ = decide (fr = f)) := rfl
      generalize frB f ⟨s, c0, fr, p, q⟩ = bb at *
      have hga := HW.out.size
      by_cases hfe : fr = f
      · rw [decide_eq_true hfe] at HBE
        rw [if_pos hfe] at hmc
        obtain ⟨m0, m1, m2, m3, m4⟩ := hmc
        simp only at m0 m1 m2 m3 m4
        obtain ⟨h1, h2, h3⟩ := HFPj.out HBE.out
        have HFS := Lib.hid h1
        have HGS := Lib.hid (HGMj.out HBE.out)
        obtain ⟨gp, rfl, hcp, hgp, hpc⟩ := HPI.out h2 h3
        obtain ⟨p0, p1, p2, p3, p4⟩ := hpc
        simp only at p0 p1 p2 p3 p4
        have hpi : (F j : Int) < (P.length : Int) := by omega
        have hpi2 : ¬ (P.length : Int) ≤ (F j : Int) := by omega
        have hpi3 : ¬ P.length ≤ F j := by omega
        clear HFPj HFMj HGPj HGMj HPI HQI h1 h2 h3
        have hbl := Blk.new wr s c0 fr p q
        have HW2 : Hid (Below w6.heap.size w6 (wr.alloc (Obj.cells #[Value.int IntKind.i64 s, Value.int IntKind.i64 c0, Value.int IntKind.i64 fr, Value.bool p, Value.bool q] 30))) := HW.out.alloc hga _
        subst hfe
        go_upto_region 11 with (fail)
        have hcl : ∀ g o v, g < wr.heap.size → wr.cell? ⟨g, o, none⟩ = some v → (wr.alloc (Obj.cells #[Value.int IntKind.i64 s, Value.int IntKind.i64 c0, Value.int IntKind.i64 fr, Value.bool p, Value.bool q] 30)).cell? ⟨g, o, none⟩ = some v := fun g o v hg h => by rw [← h]; exact World.cell?_alloc_lt _ _ _ hg
        replace k0 := hcl gx _ _ (by omega) k0; replace k1 := hcl gx _ _ (by omega) k1; replace k2 := hcl gx _ _ (by omega) k2; replace k3 := hcl gx _ _ (by omega) k3; replace k4 := hcl gx _ _ (by omega) k4
        replace m0 := hcl gm _ _ (by omega) m0; replace m1 := hcl gm _ _ (by omega) m1; replace m2 := hcl gm _ _ (by omega) m2; replace m3 := hcl gm _ _ (by omega) m3; replace m4 := hcl gm _ _ (by omega) m4
        replace p0 := hcl gp _ _ (by omega) p0; replace p1 := hcl gp _ _ (by omega) p1; replace p2 := hcl gp _ _ (by omega) p2; replace p3 := hcl gp _ _ (by omega) p3; replace p4 := hcl gp _ _ (by omega) p4
        clear hcl
        have hA0 : ∃ A, A = wr.heap.size := ⟨_, rfl⟩
        generalize wr.alloc (Obj.cells #[Value.int IntKind.i64 s, Value.int IntKind.i64 c0, Value.int IntKind.i64 fr, Value.bool p, Value.bool q] 30) = w7 at *
        have hgA : gx ≠ wr.heap.size := by omega
        have hgmA : gm ≠ wr.heap.size := by omega
        have hlw : w6.heap.size ≤ wr.heap.size := hga
        generalize wr.heap.size = A at *
        obtain ⟨c0', c1', c2', c3', c4'⟩ := (⟨hbl.c0, hbl.c1, hbl.c2, hbl.c3, hbl.c4⟩ : Cel w7 A 0 ⟨s, c0, fr, p, q⟩)
        simp only [Nat.zero_add] at c0' c1' c2' c3' c4'
        have hfz := hbl.f 3 (by omega)
        clear hA0 hga hgx hgm
        go_wp2_with fail
        go_quiet (fail)
        go_wp2_with fail
        go_quiet (fail)
        go_wp2_with fail
        go_roundw
        case rel => exact ⟨j + 1, by omega, by go_num, by rw [HFS.out]; go_num, by rw [HGS.out], below_drewN ((below_drewN HW2.out _).setCell (p := ⟨A, 3, none⟩) hlw _) _⟩
        case measure => simp [intOf]; omega
      · rw [decide_eq_false hfe] at HBE
        rw [if_neg hfe] at hmc
        obtain ⟨m0, m1, m2, m3, m4⟩ := hmc
        simp only at m0 m1 m2 m3 m4
        obtain ⟨h1, h2, h3⟩ := HGPj.out HBE.out
        have HGS := Lib.hid h1
        have HFS := Lib.hid (HFMj.out HBE.out)
        obtain ⟨gq, rfl, hcp, hgp, hpc⟩ := HQI.out h2 h3
        obtain ⟨p0, p1, p2, p3, p4⟩ := hpc
        simp only at p0 p1 p2 p3 p4
        have hpi : (G j : Int) < (Q.length : Int) := by omega
        have hpi2 : ¬ (Q.length : Int) ≤ (G j : Int) := by omega
        have hpi3 : ¬ Q.length ≤ G j := by omega
        clear HFPj HFMj HGPj HGMj HPI HQI h1 h2 h3
        have hbl := Blk.new wr s c0 fr p q
        have HW2 : Hid (Below w6.heap.size w6 (wr.alloc (Obj.cells #[Value.int IntKind.i64 s, Value.int IntKind.i64 c0, Value.int IntKind.i64 fr, Value.bool p, Value.bool q] 30))) := HW.out.alloc hga _
        have hfe2 : (fr == f) = false := by simpa using hfe
        go_upto_region 11 with (fail)
        have hcl : ∀ g o v, g < wr.heap.size → wr.cell? ⟨g, o, none⟩ = some v → (wr.alloc (Obj.cells #[Value.int IntKind.i64 s, Value.int IntKind.i64 c0, Value.int IntKind.i64 fr, Value.bool p, Value.bool q] 30)).cell? ⟨g, o, none⟩ = some v := fun g o v hg h => by rw [← h]; exact World.cell?_alloc_lt _ _ _ hg
        replace k0 := hcl gx _ _ (by omega) k0; replace k1 := hcl gx _ _ (by omega) k1; replace k2 := hcl gx _ _ (by omega) k2; replace k3 := hcl gx _ _ (by omega) k3; replace k4 := hcl gx _ _ (by omega) k4
        replace m0 := hcl gm _ _ (by omega) m0; replace m1 := hcl gm _ _ (by omega) m1; replace m2 := hcl gm _ _ (by omega) m2; replace m3 := hcl gm _ _ (by omega) m3; replace m4 := hcl gm _ _ (by omega) m4
        replace p0 := hcl gq _ _ (by omega) p0; replace p1 := hcl gq _ _ (by omega) p1; replace p2 := hcl gq _ _ (by omega) p2; replace p3 := hcl gq _ _ (by omega) p3; replace p4 := hcl gq _ _ (by omega) p4
        clear hcl
        have hA0 : ∃ A, A = wr.heap.size := ⟨_, rfl⟩
        generalize wr.alloc (Obj.cells #[Value.int IntKind.i64 s, Value.int IntKind.i64 c0, Value.int IntKind.i64 fr, Value.bool p, Value.bool q] 30) = w7 at *
        have hgA : gx ≠ wr.heap.size := by omega
        have hgmA : gm ≠ wr.heap.size := by omega
        have hlw : w6.heap.size ≤ wr.heap.size := hga
        generalize wr.heap.size = A at *
        obtain ⟨c0', c1', c2', c3', c4'⟩ := (⟨hbl.c0, hbl.c1, hbl.c2, hbl.c3, hbl.c4⟩ : Cel w7 A 0 ⟨s, c0, fr, p, q⟩)
        simp only [Nat.zero_add] at c0' c1' c2' c3' c4'
        have hfz := hbl.f 3 (by omega)
        clear hA0 hga hgx hgm
        go_wp2_with fail
        go_quiet (fail)
        go_wp2_with fail
        go_quiet (fail)
        go_wp2_with fail
        go_roundw
        case rel => exact ⟨j + 1, by omega, by go_num, by rw [HFS.out], by rw [HGS.out]; go_num, below_drewN HW2.out _⟩
        case measure => simp [intOf]; omega
    · obtain rfl : j = l.length := by omega
      have HB2 := Lib.hid (HB.out.trans (HW.out.mono HB.out.size))
      clear HX HM HP HQ HFP HFM HGP HGM HMG
      go_wp2_with fail
      refine (of_any f 0 b8 Q c8 _ (HQ0.out.below HW.out) (by have := HSUM.out; omega)).mono ?_; rintro e w8 ⟨b9', c9', rfl, _, hb⟩
      rw [HEQ.out]
      have HB3 := Lib.hid (HB2.out.trans (hb.mono HB2.out.size))
      clear hb
      go_wp2_with fail
      refine (awake_any _).mono ?_; rintro e w9 ⟨rfl, hb⟩
      go_wp2_with fail
      go_ret
      exact RetW.mk rfl (HB3.out.trans (hb.mono HB3.out.size))
end Go.Proofs.Ytodonnagmgbliaa
