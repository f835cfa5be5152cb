/- The walk of DescriptorApart. -/
import Derived.Test.YtflcbefomjlgmaaWun
import Derived.Test.YtflcbefomjlgmaaPa
set_option linter.unusedSimpArgs false
set_option linter.unusedVariables false
namespace Go.Proofs.Ytflcbefomjlgmaa
open Go.ChangeShapes Go.WideShapes Go.ChangeAt Go.RowKit

/-- A's own descriptors are changed and stored again -/
theorem Ua.put2 {w W W2 : World} {t D A : Nat} {a : Option Addr} {len cap : Nat} {x y z : Dv} (h : Ua w t D A W x y) (hu : Us w t D a len cap W x) (hb : Below W.heap.size W W2) (ha : DAns W y W2 z) :
    Ua w t D A ((W2.setCell ⟨A, 0, none⟩ (.slice z.oa z.o.length z.oc)).setCell ⟨A, 1, none⟩ (.slice z.ta z.t.length z.tc)) x z ∧ Us w t D a len cap ((W2.setCell ⟨A, 0, none⟩ (.slice z.oa z.o.length z.oc)).setCell ⟨A, 1, none⟩ (.slice z.ta z.t.length z.tc)) x := by
  have h2 := h.below hb
  have u2 := hu.below hb
  have hv : Vi W2 [t, D, A] z := ⟨ha.di, fun b hb2 hm => by
    rcases ha.blk b hb2 with h3 | h3
    · exact h.vi.out b h3 hm
    · simp only [List.mem_cons, List.not_mem_nil, or_false] at hm
      rcases hm with e | e | e
      · have := hu.tp.hi; omega
      · have := hu.box.at'.hi; omega
      · have := h.box.at'.hi; omega⟩
  refine ⟨⟨h2.box.put z, (hv.set (by simp) _ _).set (by simp) _ _, h.xa, h.hA, h.hAD, h.hAt⟩, ⟨(u2.box.other (p := ⟨A, 0, none⟩) h.hAD.symm _).other (p := ⟨A, 1, none⟩) h.hAD.symm _, ⟨?_, u2.vi.out⟩, u2.rt, (u2.tp.set h.hA h.hAt.symm _ _).set h.hA h.hAt.symm _ _, u2.hD, u2.hDt⟩⟩
  refine (u2.vi.di.keepB (by simp [World.setCell]) fun b hb2 => Below.heap_setCell W2 ⟨A, 0, none⟩ _ b (h.xa b hb2)).keepB (by simp [World.setCell]) fun b hb2 => Below.heap_setCell _ ⟨A, 1, none⟩ _ b (h.xa b hb2)
theorem look_v (x : Dv) (p f : Int) (w : World) (h : DIn w x) (hz : DSz x) :
    Calls Try.prog 19 #[.agg #[.slice x.oa x.o.length x.oc, .slice x.ta x.t.length x.tc], .int .i64 p, .int .i64 f] w fun e w' => ∃ (n q : Int) (a : Dn), e = .returned (.tuple #[.int .i64 n, .agg #[.int .i64 a.fi, .int .i64 a.fl, .int .i64 a.f, .int .i64 a.cu, .int .i64 a.rf], .int .i64 q]) ∧ n = numV x.pl p f ∧ q = numE x.pl p f ∧ a = lookV x.pl p f ∧ Below w.heap.size w w' :=
  (lookup_any x p f w h hz).mono fun _ _ ⟨h1, h2⟩ => ⟨_, _, _, h1, rfl, rfl, rfl, h2⟩
theorem look_v2 (x y : Dv) (f : Int) (w : World) (h : DIn w y) (hz : DSz y) (hl : numE y.pl 1 f = numE x.pl 1 f ∧ numV y.pl 1 f = numV x.pl 1 f ∧ ∃ r, lookV y.pl 1 f = bump (lookV x.pl 1 f) r) (m q : Int) (b : Dn) (hm : m = numV x.pl 1 f ∧ q = numE x.pl 1 f ∧ b = lookV x.pl 1 f) :
    Calls Try.prog 19 #[.agg #[.slice y.oa y.o.length y.oc, .slice y.ta y.t.length y.tc], .int .i64 1, .int .i64 f] w fun e w' => ∃ r : Int, e = .returned (.tuple #[.int .i64 m, .agg #[.int .i64 b.fi, .int .i64 b.fl, .int .i64 b.f, .int .i64 b.cu, .int .i64 r], .int .i64 q]) ∧ Below w.heap.size w w' := by
  obtain ⟨l1, l2, r, l3⟩ := hl
  obtain ⟨rfl, rfl, rfl⟩ := hm
  refine (lookup_any y 1 f w h hz).mono fun e w' ⟨h1, h2⟩ => ⟨r, ?_, h2⟩
  rw [h1]
  unfold lookR
  rw [l1, l2, l3]
  rfl
set_option maxRecDepth 100000 in
set_option maxHeartbeats 16000000 in
theorem apart_walk (a0 : Option Addr) (len0 cap0 : Nat) (w : World) (ha : ArgRow w a0 len0) (hl : len0 ≤ maxLen) :
    Calls Try.prog 6 #[.slice a0 len0 cap0] w (RetW (.bool true) w) := by
  have HT : Hid (TP w w.heap.size a0 len0 cap0 (w.alloc (.cells #[.slice a0 len0 cap0, .int .i64 0] 25))) := tape_start w a0 len0 cap0 ha hl
  have HN : Hid (∀ n W, 1 ≤ n → n ≤ 1000000 → TP w w.heap.size a0 len0 cap0 W → Calls Try.prog 8 #[.pointer (some ⟨w.heap.size, 0, none⟩), .int .i64 n] W fun e w' => ∃ r : Int, 0 ≤ r ∧ r < n ∧ e = .returned (.int .i64 r) ∧ Tick w.heap.size W w' ∧ TP w w.heap.size a0 len0 cap0 w') := fun n W h1 h2 h3 => next_tp n w W _ _ _ _ h1 h2 h3
  go_enter Try.func6, Try.ntmps6
  go_wp2_with fail
  generalize w.alloc (.cells #[.slice a0 len0 cap0, .int .i64 0] 25) = w1 at *
  refine (descs_v _ _ _ _ _ _ HT.out).mono ?_
  rintro e w2 ⟨x, rfl, hrt, hdi, hlo, hk, tp⟩
  have htl := HT.out.hi
  have hs1 := hk.size
  have hb4 : Below w2.heap.size w2 (w2.alloc (Obj.cells #[.slice x.oa x.o.length x.oc, .slice x.ta x.t.length x.tc] 29)) := (Below.refl _ _).alloc (Nat.le_refl _) _
  have HD : Hid (Us w w.heap.size w2.heap.size a0 len0 cap0 (w2.alloc (Obj.cells #[.slice x.oa x.o.length x.oc, .slice x.ta x.t.length x.tc] 29)) x) := by
    refine ⟨Bx.new w2 x, ⟨hdi.below hb4, fun b hb hm => ?_⟩, hrt, tp.below hb4 tp.hi, by omega, by omega⟩
    have h1 := hlo b hb
    have h2 := hdi.blk hb
    simp only [List.mem_cons, List.not_mem_nil, or_false] at hm
    omega
  clear HT hrt hdi hlo hk tp htl hs1 hb4
  go_upto_region 3 with (fail)
  generalize w2.alloc (Obj.cells #[.slice x.oa x.o.length x.oc, .slice x.ta x.t.length x.tc] 29) = w3 at *
  generalize w2.heap.size = D at *
  obtain ⟨x0, x1, x2, x3, x4⟩ := HD.out.box.cc
  have HSX : Hid (DSz x) := HD.out.sz
  by_cases h2 : (x.t.length : Int) < 2
  · go_wp2_with fail
    refine (awake_any _).mono ?_
    rintro e wl ⟨rfl, hb⟩
    go_wp2_with fail
    go_ret
    exact RetW.mk rfl (HD.out.tp.bel.trans (hb.mono HD.out.tp.bel.size))
  · have HT2 : Hid (2 ≤ x.pl.t.length) := by have : x.pl.t.length = x.t.length := pl_t x; show 2 ≤ x.pl.t.length; omega
    go_upto_region 6 with (fail)
    have HA := Lib.hid (Ua.new HD.out x HD.out.vi)
    replace HD := Lib.hid (HD.out.alloc (.cells #[.slice x.oa x.o.length x.oc, .slice x.ta x.t.length x.tc] 29))
    have HS : Hid (See x.pl x.pl) := See.refl HD.out.rt
    clear x0 x1 x2 x3 x4
    generalize w3.alloc (Obj.cells #[.slice x.oa x.o.length x.oc, .slice x.ta x.t.length x.tc] 29) = w4 at *
    generalize w3.heap.size = A at *
    go_wp2_with fail
    go_loopw [6] (fun v6 wr => ∃ (n : Nat) (y : Dv), v6 = .int .i64 n ∧ n ≤ 6 ∧ Hid (Us w w.heap.size D a0 len0 cap0 wr x) ∧ Hid (Ua w w.heap.size D A wr x y) ∧ Hid (See x.pl y.pl)) (fun v6 _ => 6 - (intOf v6).toNat)
    case atStart => exact ⟨0, x, rfl, by omega, HD, HA, HS⟩
    case round =>
      clear HD HA HS
      obtain ⟨n, y, rfl, hn6, HD, HA, HS⟩ := hrel
      by_cases hn : n < 6
      · have hn' : (n : Int) < 6 := by omega
        have HSZ : Hid (DSz y) := (check_sz (rt_check HS.out.rt)).sz rfl
        go_wp2_with fail
        refine (HN.out _ _ (by omega) (by omega) HD.out.tp).mono ?_
        rintro e w5 ⟨k, hk0, hk1, rfl, htk, htp⟩
        replace HD := Lib.hid (HD.out.tick htk htp)
        replace HA := Lib.hid (HA.out.tick htk)
        clear htk htp
        have hk3 : k = 0 ∨ k = 1 ∨ k = 2 := by omega
        clear hk0 hk1
        rcases hk3 with rfl | rfl | rfl
        · go_upto_region 11 with (fail)
          replace HD := Lib.hid (HD.out.below (Below.refl _ _).drew)
          replace HA := Lib.hid (HA.out.below (Below.refl _ _).drew)
          obtain ⟨a0', a1', a2', a3', a4'⟩ := HA.out.box.cc
          (first | go_region_with (first | (go_at_call 8; refine (HN.out _ _ (by omega) (by omega) HD.out.tp).mono ?_; rintro e wn ⟨r, hr0, hr1, rfl, htk, htp⟩; replace HD := Lib.hid (HD.out.tick htk htp); replace HA := Lib.hid (HA.out.tick htk); clear htk htp; obtain ⟨a0', a1', a2', a3', a4'⟩ := HA.out.box.cc) | (go_at_call 10; refine (open_v y _ _ _ _ _ HA.out.vi.di HSZ.out).mono ?_; rintro e wc ⟨z, rfl, hpl, ha, hb⟩; have HQ := Lib.hid (HA.out.put2 HD.out hb ha); have HZ : Hid (See x.pl z.pl) := (by rw [hpl]; exact see_open HT2.out HS.out); replace HD := Lib.hid (HD.out.below hb); replace HA := Lib.hid (HA.out.below hb); clear ha hb hpl; obtain ⟨a0', a1', a2', a3', a4'⟩ := HA.out.box.cc)) | fail)
          all_goals
            clear HD HA
            have HD := Lib.hid HQ.out.2
            have HA := Lib.hid HQ.out.1
            clear HQ HS
            generalize (World.setCell (World.setCell _ _ _) _ _) = w8 at *
            go_wp2_with fail
            go_roundw
            case rel => exact ⟨n + 1, z, by go_num, by omega, HD, HA, HZ⟩
            case measure => simp [intOf]; omega
        · go_upto_region 13 with (fail)
          replace HD := Lib.hid (HD.out.below (Below.refl _ _).drew)
          replace HA := Lib.hid (HA.out.below (Below.refl _ _).drew)
          obtain ⟨a0', a1', a2', a3', a4'⟩ := HA.out.box.cc
          (first | go_region_with (first | (go_at_call 8; refine (HN.out _ _ (by omega) (by omega) HD.out.tp).mono ?_; rintro e wn ⟨r, hr0, hr1, rfl, htk, htp⟩; replace HD := Lib.hid (HD.out.tick htk htp); replace HA := Lib.hid (HA.out.tick htk); clear htk htp; obtain ⟨a0', a1', a2', a3', a4'⟩ := HA.out.box.cc) | (go_at_call 12; refine (dup_v y _ _ _ HA.out.vi.di HSZ.out).mono ?_; rintro e wc ⟨z, rfl, hpl, ha, hb⟩; have HQ := Lib.hid (HA.out.put2 HD.out hb ha); have HZ : Hid (See x.pl z.pl) := (by rw [hpl]; exact see_dup HS.out); replace HD := Lib.hid (HD.out.below hb); replace HA := Lib.hid (HA.out.below hb); clear ha hb hpl; obtain ⟨a0', a1', a2', a3', a4'⟩ := HA.out.box.cc)) | fail)
          all_goals
            clear HD HA
            have HD := Lib.hid HQ.out.2
            have HA := Lib.hid HQ.out.1
            clear HQ HS
            generalize (World.setCell (World.setCell _ _ _) _ _) = w8 at *
            go_wp2_with fail
            go_roundw
            case rel => exact ⟨n + 1, z, by go_num, by omega, HD, HA, HZ⟩
            case measure => simp [intOf]; omega
        · go_upto_region 15 with (fail)
          replace HD := Lib.hid (HD.out.below (Below.refl _ _).drew)
          replace HA := Lib.hid (HA.out.below (Below.refl _ _).drew)
          obtain ⟨a0', a1', a2', a3', a4'⟩ := HA.out.box.cc
          (first | go_region_with (first | (go_at_call 8; refine (HN.out _ _ (by omega) (by omega) HD.out.tp).mono ?_; rintro e wn ⟨r, hr0, hr1, rfl, htk, htp⟩; replace HD := Lib.hid (HD.out.tick htk htp); replace HA := Lib.hid (HA.out.tick htk); clear htk htp; obtain ⟨a0', a1', a2', a3', a4'⟩ := HA.out.box.cc) | (go_at_call 17; refine (close_v y _ _ _ HA.out.vi.di HSZ.out).mono ?_; rintro e wc ⟨z, rfl, hpl, ha, hb⟩; have HQ := Lib.hid (HA.out.put2 HD.out hb ha); have HZ : Hid (See x.pl z.pl) := (by rw [hpl]; exact see_close HT2.out HS.out); replace HD := Lib.hid (HD.out.below hb); replace HA := Lib.hid (HA.out.below hb); clear ha hb hpl; obtain ⟨a0', a1', a2', a3', a4'⟩ := HA.out.box.cc)) | fail)
          all_goals
            clear HD HA
            have HD := Lib.hid HQ.out.2
            have HA := Lib.hid HQ.out.1
            clear HQ HS
            generalize (World.setCell (World.setCell _ _ _) _ _) = w8 at *
            go_wp2_with fail
            go_roundw
            case rel => exact ⟨n + 1, z, by go_num, by omega, HD, HA, HZ⟩
            case measure => simp [intOf]; omega
      · obtain rfl : n = 6 := by omega
        go_wp2_with fail
        go_loopw [7] (fun v7 wr => ∃ (n : Nat), v7 = .int .i64 n ∧ n ≤ 16 ∧ Hid (Us w w.heap.size D a0 len0 cap0 wr x) ∧ Hid (Ua w w.heap.size D A wr x y)) (fun v7 _ => 16 - (intOf v7).toNat)
        case atStart => exact ⟨0, rfl, by omega, HD, HA⟩
        case round =>
          clear HD HA
          obtain ⟨n, rfl, hn16, HD, HA⟩ := hrel
          by_cases hn : n < 16
          · have hn' : (n : Int) < 16 := by omega
            have HSZ : Hid (DSz y) := (check_sz (rt_check HS.out.rt)).sz rfl
            have HL : Hid (numE y.pl 1 (n : Int) = numE x.pl 1 (n : Int) ∧ numV y.pl 1 (n : Int) = numV x.pl 1 (n : Int) ∧ ∃ r, lookV y.pl 1 (n : Int) = bump (lookV x.pl 1 (n : Int)) r) := see_look HD.out.rt HT2.out HS.out n
            obtain ⟨x0, x1, x2, x3, x4⟩ := HD.out.box.cc
            go_wp2_with fail
            refine (look_v x 1 n _ HD.out.vi.di HSX.out).mono ?_
            rintro e w6 ⟨m, q, b, rfl, hm, hq, hbv, hb⟩
            replace HD := Lib.hid (HD.out.below hb)
            replace HA := Lib.hid (HA.out.below hb)
            clear hb x0 x1 x2 x3 x4
            have HM := Lib.hid (And.intro hm (And.intro hq hbv))
            clear hm hq hbv
            go_upto_region 20 with (fail)
            have HB := Lib.hid (At.new w6 [.int .i64 b.fi, .int .i64 b.fl, .int .i64 b.f, .int .i64 b.cu, .int .i64 b.rf] 34)
            replace HD := Lib.hid (HD.out.alloc (.cells #[.int .i64 b.fi, .int .i64 b.fl, .int .i64 b.f, .int .i64 b.cu, .int .i64 b.rf] 34))
            replace HA := Lib.hid (HA.out.below ((Below.refl _ _).alloc (Nat.le_refl _) (.cells #[.int .i64 b.fi, .int .i64 b.fl, .int .i64 b.f, .int .i64 b.cu, .int .i64 b.rf] 34)))
            generalize w6.alloc (Obj.cells #[.int .i64 b.fi, .int .i64 b.fl, .int .i64 b.f, .int .i64 b.cu, .int .i64 b.rf] 34) = w7 at *
            generalize w6.heap.size = B at *
            obtain ⟨a0', a1', a2', a3', a4'⟩ := HA.out.box.cc
            go_wp2_with fail
            refine (look_v2 x y n _ HA.out.vi.di HSZ.out HL.out m q b HM.out).mono ?_
            rintro e w8 ⟨r, rfl, hb⟩
            replace HD := Lib.hid (HD.out.below hb)
            replace HA := Lib.hid (HA.out.below hb)
            have HB2 := Lib.hid (HB.out.below hb HB.out.hi)
            clear hb a0' a1' a2' a3' a4' HM HL HB
            go_upto_region 21 with (fail)
            have HC := Lib.hid (At.new w8 [.int .i64 b.fi, .int .i64 b.fl, .int .i64 b.f, .int .i64 b.cu, .int .i64 r] 34)
            have hb9 : Below w8.heap.size w8 (w8.alloc (.cells #[.int .i64 b.fi, .int .i64 b.fl, .int .i64 b.f, .int .i64 b.cu, .int .i64 r] 34)) := (Below.refl _ _).alloc (Nat.le_refl _) _
            have HB3 := Lib.hid (HB2.out.below hb9 HB2.out.hi)
            replace HD := Lib.hid (HD.out.below hb9)
            replace HA := Lib.hid (HA.out.below hb9)
            clear hb9 HB2
            generalize w8.alloc (Obj.cells #[.int .i64 b.fi, .int .i64 b.fl, .int .i64 b.f, .int .i64 b.cu, .int .i64 r] 34) = w9 at *
            generalize w8.heap.size = C at *
            obtain ⟨⟨b0, b1, b2, b3, b4⟩, _, _⟩ := HB3.out.five
            obtain ⟨⟨c0, c1, c2, c3, c4⟩, _, _⟩ := HC.out.five
            go_wp2_with fail
            go_roundw
            case rel =>
              (repeat apply Exists.intro)
              exact ⟨⟨n + 1, by go_num, by omega, HD, HA⟩, rfl⟩
            case measure => simp [intOf]; omega
          · obtain rfl : n = 16 := by omega
            go_wp2_with fail
            refine (awake_any _).mono ?_
            rintro e wl ⟨rfl, hb⟩
            go_wp2_with fail
            go_ret
            exact RetW.mk rfl (HD.out.tp.bel.trans (hb.mono HD.out.tp.bel.size))
end Go.Proofs.Ytflcbefomjlgmaa
