/- The walk of AreaUndone. -/
import Derived.Test.YtpnoilpdlnlebaaMd
namespace Go.Proofs.Ytpnoilpdlnlebaa
open Go.ChangeShapes Go.WideShapes Go.ChangeAt Go.RowKit

theorem cut_facts {l : List Ar} {es ec ef ep t : Int} {eb : Bool} (h : checkV l = true) (hm : (⟨es, ec, ef, ep, eb⟩ : Ar) ∈ l) (h8 : l.length < 8) (h1 : es < t) (h2 : t + 1 < es + ec) :
    ∃ y : List Ar, unmapV l t 1 = (y, 0) ∧ y.length = l.length + 1 ∧ findV y (t - 1) = some ⟨es, t - es, ef, ep, eb⟩ ∧ findV y (t + 1) = some ⟨t + 1, es + ec - t - 1, ef, ep + t + 1 - es, eb⟩ ∧ findV y t = none := by
  have hg := good_of_check h
  have hr := right_num (hg.right _ hm)
  simp only at hr
  have hlen := out_cut_len hg hm h1 h2
  have hw : withinB t 1 64 = true := within_of (by omega) (by omega) (by omega)
  have hn8 : ¬ 8 < (outTo l t 1 l.length).length := by omega
  have hc := out_check h (by omega) hn8
  refine ⟨outTo l t 1 l.length, by rw [unmap_ok h hw, if_neg hn8], hlen, ?_, ?_, out_find_in h (by omega) hn8 (by omega) (by omega)⟩
  · refine (find_iff hc).2 ⟨mem_out.2 ⟨_, hm, Or.inl (part_iff.2 ⟨by dsimp only; omega, Ar.ext' ?_ ?_ rfl ?_ rfl⟩)⟩, ?_⟩
    · show es = max 0 es; omega
    · show t - es = min t (es + ec) - max 0 es; omega
    · show ep = ep + (max 0 es - es); omega
    · unfold inB; exact decide_eq_true (by dsimp only; omega)
  · refine (find_iff hc).2 ⟨mem_out.2 ⟨_, hm, Or.inr (part_iff.2 ⟨by dsimp only; omega, Ar.ext' ?_ ?_ rfl ?_ rfl⟩)⟩, ?_⟩
    · show t + 1 = max (t + 1) es; omega
    · show es + ec - t - 1 = min 64 (es + ec) - max (t + 1) es; omega
    · show ep + t + 1 - es = ep + (max (t + 1) es - es); omega
    · unfold inB; exact decide_eq_true (by dsimp only; omega)
/-- .. and block A holds an area of its own -/
structure MidA (w0 wx : World) (T : Nat) (a : Option Addr) (len cap : Nat) (b : Option Addr) (c : Nat) (l : List Ar) (A : Nat) (e : Ar) (W : World) : Prop where
  mid : Mid w0 wx T a len cap b c l W
  blk : Blk W A e
  ne : A ≠ T
theorem MidA.below {w0 wx : World} {T : Nat} {a : Option Addr} {len cap : Nat} {b : Option Addr} {c : Nat} {l : List Ar} {A : Nat} {e : Ar} {W W' : World} (h : MidA w0 wx T a len cap b c l A e W) (hb : Below W.heap.size W W') : MidA w0 wx T a len cap b c l A e W' :=
  ⟨h.mid.below hb, h.blk.below hb, h.ne⟩
theorem MidA.next {w0 wx : World} {T : Nat} {a : Option Addr} {len cap : Nat} {b : Option Addr} {c : Nat} {l : List Ar} {A : Nat} {e : Ar} {W : World} (h : MidA w0 wx T a len cap b c l A e W) (n : Int) (h1 : 1 ≤ n) (h2 : n ≤ 1000000) :
    Calls Try.prog 8 #[.pointer (some ⟨T, 0, none⟩), .int .i64 n] W fun e' w' => ∃ r : Int, 0 ≤ r ∧ r < n ∧ e' = .returned (.int .i64 r) ∧ MidA w0 wx T a len cap b c l A e w' :=
  (next_tp n _ _ _ _ _ _ h1 h2 h.mid.tp).mono fun _ _ ⟨r, h0, h1, he, hk, tp⟩ => ⟨r, h0, h1, he, h.mid.tick hk tp, hk.blk h.ne h.blk, h.ne⟩
set_option maxRecDepth 100000 in
set_option maxHeartbeats 16000000 in
theorem undone_walk (a0 : Option Addr) (len0 cap0 : Nat) (a1 : Option Addr) (len1 cap1 : Nat) (w : World) (ha : ArgRow w a0 len0) (hl : len0 ≤ maxLen) (ha1 : ArgRow w a1 len1) (hl1 : len1 ≤ maxLen) :
    Calls Try.prog 6 #[.slice a0 len0 cap0, .slice a1 len1 cap1] w (RetW (.bool true) w) := by
  have HT : Hid (TP w w.heap.size a0 len0 cap0 (w.alloc (.cells #[.slice a0 len0 cap0, .int .i64 0] 25))) := tape_start w a0 len0 cap0 ha hl
  have HT2 : Hid (∀ W, Below w.heap.size w W → TP w W.heap.size a1 len1 cap1 (W.alloc (.cells #[.slice a1 len1 cap1, .int .i64 0] 25))) := fun W hb => tape_at W a1 len1 cap1 ha1 hl1 hb
  go_enter Try.func6, Try.ntmps6
  go_wp2_with fail
  generalize w.alloc (.cells #[.slice a0 len0 cap0, .int .i64 0] 25) = w1 at *
  refine (areas_any _ _ _ _ _ _ HT.out).mono ?_
  rintro e w2 ⟨b, c, l, rfl, hc, hl5, hr, hk, tp⟩
  have HB := Lib.hid tp.bel
  have hm : Mid w w2 w2.heap.size a1 len1 cap1 b c l (w2.alloc (.cells #[.slice a1 len1 cap1, .int .i64 0] 25)) :=
    ⟨(Below.refl _ _).alloc (Nat.le_refl _) _, (hr.mono (Nat.zero_le _)).below ((Below.refl _ _).alloc (Nat.le_refl _) _), HT2.out _ tp.bel, Nat.le_refl _, fun g hg => by have := (hr.blk hg).2; omega⟩
  have HM := Lib.hid hm
  have HC := Lib.hid hc
  clear HT HT2 hr hk tp hm hc
  go_wp2_with fail
  generalize w2.alloc (.cells #[.slice a1 len1 cap1, .int .i64 0] 25) = w3 at *
  generalize hT : w2.heap.size = T at *
  refine (next_tp 5 _ _ _ _ _ _ (by omega) (by omega) HM.out.tp).mono ?_
  rintro e w4 ⟨r, hr0, hr1, rfl, hk, tp⟩
  replace HM := Lib.hid (HM.out.tick hk tp)
  clear hk tp
  have hw1 : wrap64 (1 + r) = 1 + r := IntWalk.wrap64_in _ (by omega)
  have hw2 : IntKind.i64.wrap (1 + r) = 1 + r := IntWalk.i64_in _ (by omega)
  go_wp2_with fail
  refine (room_any 0 b l c (1 + r) w4 HM.out.row (by omega)).mono ?_
  rintro e w5 ⟨rfl, hb⟩
  replace HM := Lib.hid (HM.out.below hb)
  have hrf := fun p hp => room_free (n := 1 + r) (p := p) HC.out hp
  have HRF := Lib.hid hrf
  clear hb hrf
  have hl8 : (l.length : Int) < 8 := by omega
  generalize roomV l (1 + r) = R at *
  obtain ⟨p, ok⟩ := R
  go_upto_region 5 with (fail)
  go_cut [45] (fun s45 wx => s45 = .bool ok ∧ Hid (Mid w w2 T a1 len1 cap1 b c l wx))
  case first =>
    cases ok with
    | false =>
      go_wp2_with fail
      go_meet
      exact ⟨rfl, HM⟩
    | true =>
      go_wp2_with fail
      go_meet
      exact ⟨rfl, HM⟩
  case rest =>
  clear HM
  obtain ⟨rfl, HM⟩ := hcut
  go_upto_if 45 with (fail)
  go_cut [4] (fun s4 wx => s4 = .bool false ∧ Hid (Mid w w2 T a1 len1 cap1 b c l wx))
  case first =>
    cases ok with
    | false =>
      go_wp2_with fail
      go_meet
      exact ⟨rfl, HM⟩
    | true =>
      obtain ⟨q0, q1, q2, hfree⟩ := HRF.out p rfl
      have HFR := Lib.hid hfree
      clear HRF hfree
      go_wp2_with fail
      have hmap := map_any 0 b l c ⟨p, 1 + r, 7, 0, false⟩ _ HM.out.row (by omega) (insOK_any _ (by omega))
      have hrb : rightB ⟨p, 1 + r, 7, 0, false⟩ = true := by
        unfold rightB
        exact decide_eq_true ⟨q0, q1, q2, by show (0 : Int) ≤ 0; omega, by show 0 + (1 + r) ≤ 8; omega, by show (0 : Int) ≤ 7; omega, by show (7 : Int) < 8; omega⟩
      rw [map_free HC.out hrb HFR.out, if_neg (by omega)] at hmap
      have hun := unmap_ins HC.out hrb HFR.out (by omega)
      have HYL := Lib.hid (insS_len ⟨p, 1 + r, 7, 0, false⟩ l)
      generalize insS ⟨p, 1 + r, 7, 0, false⟩ l = y at *
      unfold arVal at hmap
      simp only at hmap hun
      have HUN := Lib.hid hun
      clear hun hrb
      refine hmap.mono ?_
      rintro e w6 ⟨b2, c2, rfl, hry, hb⟩
      replace HM := Lib.hid (HM.out.below hb)
      have hunm := unmap_any _ b2 y c2 p (1 + r) w6 hry (by rw [HYL.out]; omega)
      rw [HUN.out] at hunm
      clear hmap hry hb
      go_wp2_with fail
      refine hunm.mono ?_
      rintro e w7 ⟨b3, c3, rfl, hrz, hb⟩
      replace HM := Lib.hid (HM.out.below hb)
      have HRZ := Lib.hid hrz
      clear hunm hrz hb
      go_wp2_with fail
      refine (same_any _ _ b3 b l c3 c w7 HRZ.out HM.out.row (by omega)).mono ?_
      rintro e w8 ⟨rfl, hb⟩
      replace HM := Lib.hid (HM.out.below hb)
      clear hb
      go_wp2_with fail
      go_meet
      exact ⟨rfl, HM⟩
  case rest =>
    clear HM HRF
    obtain ⟨rfl, HM⟩ := hcut
    by_cases h0 : l.length = 0
    · have h0' : (l.length : Int) = 0 := by omega
      go_wp2_with fail
      refine (awake_any _).mono ?_
      rintro e w9 ⟨rfl, hb⟩
      have HB9 := Lib.hid (HB.out.trans ((HM.out.bel.mono HB.out.size).trans (hb.mono (Nat.le_trans HB.out.size HM.out.bel.size))))
      clear hb
      go_wp2_with fail
      go_ret
      exact ⟨rfl, HB9.out⟩
    · have h0' : ¬ (l.length : Int) = 0 := by omega
      have h8' : ¬ (l.length : Int) = 8 := by omega
      have g0 : ((l.length : Int) == 0) = false := by simpa using h0'
      have g8 : ((l.length : Int) == 8) = false := by simpa using h8'
      clear h0' h8'
      go_wp2_with fail
      refine (next_tp l.length _ _ _ _ _ _ (by omega) (by omega) HM.out.tp).mono ?_
      rintro e w9 ⟨k, hk0, hk1, rfl, hk, tp⟩
      replace HM := Lib.hid (HM.out.tick hk tp)
      clear hk tp
      obtain ⟨k, rfl⟩ := Int.eq_ofNat_of_zero_le hk0
      have hkl : k < l.length := by omega
      obtain ⟨g, rfl, _, _, hcap, _, hcel⟩ := HM.out.row.at (by omega)
      have hcap' : (l.length : Int) ≤ c := by omega
      have hce := hcel k hkl
      have hmem : l.getD k Ar.zero ∈ l := by rw [getD_get hkl]; exact List.getElem_mem hkl
      have HME := Lib.hid hmem
      have hre := right_num ((good_of_check HC.out).right _ hmem)
      clear hcel hmem
      generalize l.getD k Ar.zero = e at *
      obtain ⟨es, ec, ef, ep, eb⟩ := e
      obtain ⟨k0, k1, k2, k3, k4⟩ := hce
      simp only at k0 k1 k2 k3 k4 hre
      by_cases hc3 : ec < 3
      · go_wp2_with fail
        refine (awake_any _).mono ?_
        rintro e wb ⟨rfl, hb⟩
        have HB9 := Lib.hid (HB.out.trans ((HM.out.bel.mono HB.out.size).trans (((Below.refl _ _).alloc (Nat.le_trans HB.out.size HM.out.bel.size) _).trans (hb.mono (Nat.le_trans (Nat.le_trans HB.out.size HM.out.bel.size) (by simp))))))
        clear hb
        go_wp2_with fail
        go_ret
        exact ⟨rfl, HB9.out⟩
      · have hc4 : 3 ≤ ec := by omega
        have hMA : MidA w w2 T a1 len1 cap1 (some ⟨g, 0, none⟩) c l w9.heap.size ⟨es, ec, ef, ep, eb⟩ (w9.alloc (.cells #[.int .i64 es, .int .i64 ec, .int .i64 ef, .int .i64 ep, .bool eb] 30)) :=
          ⟨HM.out.below ((Below.refl _ _).alloc (Nat.le_refl _) _), Blk.new w9 es ec ef ep eb, by have := HM.out.tp.hi; omega⟩
        have HMA := Lib.hid hMA
        clear HM hMA
        go_upto_region 15 with (fail)
        clear k0 k1 k2 k3 k4
        generalize w9.alloc (.cells #[.int .i64 es, .int .i64 ec, .int .i64 ef, .int .i64 ep, .bool eb] 30) = w10 at *
        generalize w9.heap.size = A at *
        go_cut [15] (fun s15 wx => ∃ t : Int, s15 = .int .i64 t ∧ es < t ∧ t + 1 < es + ec ∧ Hid (MidA w w2 T a1 len1 cap1 (some ⟨g, 0, none⟩) c l A ⟨es, ec, ef, ep, eb⟩ wx))
        case first =>
          have c0 := HMA.out.blk.c0; have c1 := HMA.out.blk.c1
          simp only at c0 c1
          have HW := Lib.hid (HMA.out.below (Below.refl _ _).drew)
          have NX : Hid (∀ W, MidA w w2 T a1 len1 cap1 (some ⟨g, 0, none⟩) c l A ⟨es, ec, ef, ep, eb⟩ W → Calls Try.prog 8 #[.pointer (some ⟨T, 0, none⟩), .int .i64 (ec - 2)] W fun e' w' => ∃ r : Int, 0 ≤ r ∧ r < ec - 2 ∧ e' = .returned (.int .i64 r) ∧ MidA w w2 T a1 len1 cap1 (some ⟨g, 0, none⟩) c l A ⟨es, ec, ef, ep, eb⟩ w') := fun W hW => hW.next (ec - 2) (by omega) (by omega)
          have x1 : IntKind.i64.wrap (es + 1) = es + 1 := IntWalk.i64_in _ (by omega)
          have x2 : IntKind.i64.wrap (ec - 2) = ec - 2 := IntWalk.i64_in _ (by omega)
          go_region_held3 (fun w' => w'.cell? ⟨A, 0, none⟩ = some (.int .i64 es) ∧ w'.cell? ⟨A, 1, none⟩ = some (.int .i64 ec)) (go_keep) (first | (go_at_call 8; (with_reducible refine (NX.out _ HW.out).mono ?_); rintro e' wa ⟨q, qq0, qq1, rfl, va⟩; have ka0 := va.blk.c0; have ka1 := va.blk.c1; simp only at ka0 ka1; have x3 : IntKind.i64.wrap (es + 1 + q) = es + 1 + q := IntWalk.i64_in _ (by omega)))
          all_goals
            go_wp2_with fail
            go_meet
            exact ⟨_, rfl, by omega, by omega, va⟩
        case rest =>
          clear HMA
          obtain ⟨t, rfl, t1, t2, HMA⟩ := hcut
          obtain ⟨y, hy1, hy2, hy3, hy4, hy5⟩ := cut_facts HC.out HME.out (by omega) t1 t2
          have hun := unmap_any 0 _ l c t 1 wc HMA.out.mid.row (by omega)
          rw [hy1] at hun
          have HY2 := Lib.hid hy2
          have HY3 := Lib.hid hy3; have HY4 := Lib.hid hy4; have HY5 := Lib.hid hy5
          have HUN := Lib.hid hun
          clear hy1 hy2 hy3 hy4 hy5 hun
          go_wp2_with fail
          refine HUN.out.mono ?_
          rintro e wd ⟨b2, c2, rfl, hry, hb⟩
          have HF : Hid (∀ q, ∀ W, Below wd.heap.size wd W → Calls Try.prog 14 #[.slice b2 y.length c2, .int .i64 q] W (RetW (.tuple #[arVal (optA (findV y q)), .bool (findV y q).isSome]) W)) := fun q W hW => find_any _ b2 y c2 q W (hry.below hW) (by rw [HY2.out]; omega)
          have f1 : Hid (∀ W, Below wd.heap.size wd W → Calls Try.prog 14 #[.slice b2 y.length c2, .int .i64 (t - 1)] W (RetW (.tuple #[.agg #[.int .i64 es, .int .i64 (t - es), .int .i64 ef, .int .i64 ep, .bool eb], .bool true]) W)) := by
            have := HF.out (t - 1)
            rw [HY3.out] at this
            exact this
          have f2 : Hid (∀ W, Below wd.heap.size wd W → Calls Try.prog 14 #[.slice b2 y.length c2, .int .i64 (t + 1)] W (RetW (.tuple #[.agg #[.int .i64 (t + 1), .int .i64 (es + ec - t - 1), .int .i64 ef, .int .i64 (ep + t + 1 - es), .bool eb], .bool true]) W)) := by
            have := HF.out (t + 1)
            rw [HY4.out] at this
            exact this
          have f3 : Hid (∀ W, Below wd.heap.size wd W → Calls Try.prog 14 #[.slice b2 y.length c2, .int .i64 t] W (RetW (.tuple #[.agg #[.int .i64 0, .int .i64 0, .int .i64 0, .int .i64 0, .bool false], .bool false]) W)) := by
            have := HF.out t
            rw [HY5.out] at this
            exact this
          clear HF HY3 HY4 HY5 hry
          have HBD := Lib.hid (HB.out.trans ((HMA.out.mid.bel.mono HB.out.size).trans (hb.mono (Nat.le_trans HB.out.size HMA.out.mid.bel.size))))
          have hAB := Lib.hid ((HMA.out.blk.below hb))
          have HSZ := Lib.hid (HBD.out.size)
          clear hb HMA
          have y1 : IntKind.i64.wrap (t - 1) = t - 1 := IntWalk.i64_in _ (by omega)
          have y2 : IntKind.i64.wrap (t + 1) = t + 1 := IntWalk.i64_in _ (by omega)
          go_wp2_with fail
          refine (f1.out _ (Below.refl _ _)).mono ?_
          rintro e' we ⟨rfl, hb⟩
          have HE := Lib.hid hb
          clear hb
          go_wp2_with fail
          have B1 := Blk.new we es (t - es) ef ep eb
          have hal := (Below.refl we.heap.size we).alloc (Nat.le_refl _) (Obj.cells #[Value.int IntKind.i64 es, Value.int IntKind.i64 (t - es), Value.int IntKind.i64 ef, Value.int IntKind.i64 ep, Value.bool eb] 30)
          replace hAB := Lib.hid ((hAB.out.below HE.out).below hal)
          replace HE := Lib.hid (HE.out.trans (hal.mono HE.out.size))
          clear hal
          generalize (we.alloc (Obj.cells #[Value.int IntKind.i64 es, Value.int IntKind.i64 (t - es), Value.int IntKind.i64 ef, Value.int IntKind.i64 ep, Value.bool eb] 30)) = we2 at *
          generalize we.heap.size = P1 at *
          refine (f2.out _ HE.out).mono ?_
          rintro e' wf ⟨rfl, hb⟩
          have HB1 := Lib.hid (B1.below hb)
          replace hAB := Lib.hid (hAB.out.below hb)
          replace HE := Lib.hid (HE.out.trans (hb.mono HE.out.size))
          clear hb B1
          go_wp2_with fail
          have B2 := Blk.new wf (t + 1) (es + ec - t - 1) ef (ep + t + 1 - es) eb
          have hal := (Below.refl wf.heap.size wf).alloc (Nat.le_refl _) (Obj.cells #[Value.int IntKind.i64 (t + 1), Value.int IntKind.i64 (es + ec - t - 1), Value.int IntKind.i64 ef, Value.int IntKind.i64 (ep + t + 1 - es), Value.bool eb] 30)
          replace hAB := Lib.hid (hAB.out.below hal)
          replace HB1 := Lib.hid (HB1.out.below hal)
          replace HE := Lib.hid (HE.out.trans (hal.mono HE.out.size))
          clear hal
          generalize (wf.alloc (Obj.cells #[Value.int IntKind.i64 (t + 1), Value.int IntKind.i64 (es + ec - t - 1), Value.int IntKind.i64 ef, Value.int IntKind.i64 (ep + t + 1 - es), Value.bool eb] 30)) = wf2 at *
          generalize wf.heap.size = P2 at *
          refine (f3.out _ HE.out).mono ?_
          rintro e' wg ⟨rfl, hb⟩
          have HB2 := Lib.hid (B2.below hb)
          replace hAB := Lib.hid (hAB.out.below hb)
          replace HB1 := Lib.hid (HB1.out.below hb)
          replace HE := Lib.hid (HE.out.trans (hb.mono HE.out.size))
          clear hb B2 f1 f2 f3
          have HLE : Hid ((y.length : Int) = (l.length : Int) + 1) := by have := HY2.out; unfold Hid; omega
          have yl : IntKind.i64.wrap ((l.length : Int) + 1) = (l.length : Int) + 1 := IntWalk.i64_in _ (by omega)
          have yll := HY2.out
          have sA := hAB.out.hi; have sB := HB1.out.hi; have sC := HB2.out.hi
          have m0 := hAB.out.c0; have m1 := hAB.out.c1; have m2 := hAB.out.c2; have m3 := hAB.out.c3; have m4 := hAB.out.c4
          have n0 := HB1.out.c0; have n1 := HB1.out.c1; have n2 := HB1.out.c2; have n3 := HB1.out.c3; have n4 := HB1.out.c4
          have o0 := HB2.out.c0; have o1 := HB2.out.c1; have o2 := HB2.out.c2; have o3 := HB2.out.c3; have o4 := HB2.out.c4
          simp only at m0 m1 m2 m3 m4 n0 n1 n2 n3 n4 o0 o1 o2 o3 o4
          have z1 : IntKind.i64.wrap (t - es) = t - es := IntWalk.i64_in _ (by omega)
          have z2 : IntKind.i64.wrap (ep + t) = ep + t := IntWalk.i64_in _ (by omega)
          have z3 : IntKind.i64.wrap (ep + t + 1) = ep + t + 1 := IntWalk.i64_in _ (by omega)
          have z4 : IntKind.i64.wrap (ep + t + 1 - es) = ep + t + 1 - es := IntWalk.i64_in _ (by omega)
          have z5 : IntKind.i64.wrap (es + ec) = es + ec := IntWalk.i64_in _ (by omega)
          have z6 : IntKind.i64.wrap (es + ec - t) = es + ec - t := IntWalk.i64_in _ (by omega)
          have z7 : IntKind.i64.wrap (es + ec - t - 1) = es + ec - t - 1 := IntWalk.i64_in _ (by omega)
          go_wp2_with fail
          refine (awake_any _).mono ?_
          rintro e' wh ⟨rfl, hb⟩
          have HFI := Lib.hid (HBD.out.trans ((HE.out.mono HBD.out.size).trans (((Below.refl _ _).alloc (Nat.le_trans HBD.out.size HE.out.size) _).trans (hb.mono (Nat.le_trans (Nat.le_trans HBD.out.size HE.out.size) (by simp))))))
          clear hb
          go_wp2_with fail
          go_ret
          exact ⟨rfl, HFI.out⟩
end Go.Proofs.Ytpnoilpdlnlebaa
