/- The walk of DescriptorUndone. -/
import Derived.Test.YtflcbefomjlgmaaAwk
import Derived.Test.YtflcbefomjlgmaaPu
import Derived.Test.YtflcbefomjlgmaaDd
import Derived.Test.YtflcbefomjlgmaaSm
set_option linter.unusedSimpArgs false
set_option linter.unusedVariables false
namespace Go.Proofs.Ytflcbefomjlgmaa
open Go.ChangeShapes Go.WideShapes Go.ChangeAt Go.RowKit

theorem tape_start (w : World) (a : Option Addr) (len cap : Nat) (ha : ArgRow w a len) (hl : len ≤ maxLen) : TP w w.heap.size a len cap (w.alloc (.cells #[.slice a len cap, .int .i64 0] 25)) :=
  ⟨0, ha, Nat.le_refl _, by simp, (Below.refl _ _).alloc (Nat.le_refl _) _, by simp, by simp, by simp, Nat.zero_le _, hl⟩
theorem descs_v (w0 w : World) (t : Nat) (a : Option Addr) (len cap : Nat) (h : TP w0 t a len cap w) :
    Calls Try.prog 29 #[.pointer (some ⟨t, 0, none⟩)] w fun e w' => ∃ x : Dv, e = .returned (.agg #[.slice x.oa x.o.length x.oc, .slice x.ta x.t.length x.tc]) ∧ Rt x.pl ∧ DIn w' x ∧ (∀ b, DBlk x b → w.heap.size ≤ b) ∧ Tock t w w' ∧ TP w0 t a len cap w' :=
  (descs_any w0 w t a len cap h).mono fun e w' ⟨x, h1, h2, h3, h4, h5, h6⟩ => ⟨x, h1, h2, h3, h4, h5, h6⟩
/-- in the midst of the law: the tape is t, variable D has x -/
structure Us (w : World) (t D : Nat) (a : Option Addr) (len cap : Nat) (W : World) (x : Dv) : Prop where
  box : Bx W D x
  vi : Vi W [t, D] x
  rt : Rt x.pl
  tp : TP w t a len cap W
  hD : w.heap.size ≤ D
  hDt : D ≠ t
theorem Us.tick {w W W' : World} {t D : Nat} {a : Option Addr} {len cap : Nat} {x : Dv} (h : Us w t D a len cap W x) (hk : Tick t W W') (hp : TP w t a len cap W') : Us w t D a len cap W' x :=
  ⟨h.box.tick hk h.hDt, h.vi.tick hk (by simp), h.rt, hp, h.hD, h.hDt⟩
theorem Us.below {w W W' : World} {t D : Nat} {a : Option Addr} {len cap : Nat} {x : Dv} (h : Us w t D a len cap W x) (hb : Below W.heap.size W W') : Us w t D a len cap W' x :=
  ⟨h.box.below hb h.box.at'.hi, h.vi.below hb, h.rt, h.tp.below hb h.tp.hi, h.hD, h.hDt⟩
theorem Us.alloc {w W : World} {t D : Nat} {a : Option Addr} {len cap : Nat} {x : Dv} (h : Us w t D a len cap W x) (o : Obj) : Us w t D a len cap (W.alloc o) x := h.below ((Below.refl _ _).alloc (Nat.le_refl _) o)
theorem Us.sz {w W : World} {t D : Nat} {a : Option Addr} {len cap : Nat} {x : Dv} (h : Us w t D a len cap W x) : DSz x := (check_sz (rt_check h.rt)).sz rfl
theorem Us.vb {w W : World} {t D : Nat} {a : Option Addr} {len cap : Nat} {x : Dv} (h : Us w t D a len cap W x) : ∀ b, b ∈ [t, D] → b < W.heap.size := fun b hb => by
  simp only [List.mem_cons, List.not_mem_nil, or_false] at hb
  rcases hb with e | e
  · rw [e]; exact h.tp.hi
  · rw [e]; exact h.box.at'.hi
/-- A is another variable, with y -/
structure Ua (w : World) (t D A : Nat) (W : World) (x y : Dv) : Prop where
  box : Bx W A y
  vi : Vi W [t, D, A] y
  xa : ∀ b, DBlk x b → b ≠ A
  hA : w.heap.size ≤ A
  hAD : A ≠ D
  hAt : A ≠ t
theorem Ua.new {w W : World} {t D : Nat} {a : Option Addr} {len cap : Nat} {x : Dv} (h : Us w t D a len cap W x) (y : Dv) (hy : Vi W [t, D] y) : Ua w t D W.heap.size (W.alloc (.cells #[.slice y.oa y.o.length y.oc, .slice y.ta y.t.length y.tc] 29)) x y := by
  have hb : Below W.heap.size W (W.alloc (.cells #[.slice y.oa y.o.length y.oc, .slice y.ta y.t.length y.tc] 29)) := (Below.refl _ _).alloc (Nat.le_refl _) _
  refine ⟨Bx.new W y, ⟨hy.di.below hb, fun b hb2 hm => ?_⟩, fun b hb2 => by have := h.vi.di.blk hb2; omega, h.tp.bel.size, by have := h.box.at'.hi; omega, by have := h.tp.hi; omega⟩
  simp only [List.mem_cons, List.not_mem_nil, or_false] at hm
  rcases hm with e | e | e
  · exact hy.out b hb2 (by simp [e])
  · exact hy.out b hb2 (by simp [e])
  · have := hy.di.blk hb2; omega
theorem Ua.newN {w W : World} {t D : Nat} {a : Option Addr} {len cap : Nat} {x : Dv} (h : Us w t D a len cap W x) : Ua w t D W.heap.size (W.alloc (.cells #[.slice none 0 0, .slice none 0 0] 29)) x Dv.nil :=
  Ua.new h Dv.nil ⟨DIn.nil _, fun b hb => by
    rcases hb with ⟨q, h1, _⟩ | ⟨q, h1, _⟩ | ⟨z, hz, _⟩
    · cases h1
    · cases h1
    · cases hz⟩
theorem Ua.tick {w W W' : World} {t D A : Nat} {x y : Dv} (h : Ua w t D A W x y) (hk : Tick t W W') : Ua w t D A W' x y := ⟨h.box.tick hk h.hAt, h.vi.tick hk (by simp), h.xa, h.hA, h.hAD, h.hAt⟩
theorem Ua.below {w W W' : World} {t D A : Nat} {x y : Dv} (h : Ua w t D A W x y) (hb : Below W.heap.size W W') : Ua w t D A W' x y := ⟨h.box.below hb h.box.at'.hi, h.vi.below hb, h.xa, h.hA, h.hAD, h.hAt⟩
/-- other descriptors are stored into A -/
theorem Ua.put {w W W2 : World} {t D A : Nat} {a : Option Addr} {len cap : Nat} {x y z : Dv} (h : Ua w t D A W x y) (hu : Us w t D a len cap W x) (hb : Below W.heap.size W W2) (ha : DAns W x W2 z) :
    Ua w t D A ((W2.setCell ⟨A, 0, none⟩ (.slice z.oa z.o.length z.oc)).setCell ⟨A, 1, none⟩ (.slice z.ta z.t.length z.tc)) x z ∧ Us w t D a len cap ((W2.setCell ⟨A, 0, none⟩ (.slice z.oa z.o.length z.oc)).setCell ⟨A, 1, none⟩ (.slice z.ta z.t.length z.tc)) x := by
  have h2 := h.below hb
  have u2 := hu.below hb
  have hv : Vi W2 [t, D, A] z := ⟨ha.di, fun b hb2 hm => by
    simp only [List.mem_cons, List.not_mem_nil, or_false] at hm
    rcases ha.blk b hb2 with h3 | h3
    · rcases hm with e | e | e
      · exact hu.vi.out b h3 (by simp [e])
      · exact hu.vi.out b h3 (by simp [e])
      · exact h.xa b h3 e
    · rcases hm with e | e | e
      · have := hu.tp.hi; omega
      · have := hu.box.at'.hi; omega
      · have := h.box.at'.hi; omega⟩
  refine ⟨⟨h2.box.put z, (hv.set (by simp) _ _).set (by simp) _ _, h.xa, h.hA, h.hAD, h.hAt⟩, ⟨(u2.box.other (p := ⟨A, 0, none⟩) h.hAD.symm _).other (p := ⟨A, 1, none⟩) h.hAD.symm _, ⟨?_, u2.vi.out⟩, u2.rt, (u2.tp.set h.hA h.hAt.symm _ _).set h.hA h.hAt.symm _ _, u2.hD, u2.hDt⟩⟩
  refine (u2.vi.di.keepB (by simp [World.setCell]) fun b hb2 => Below.heap_setCell W2 ⟨A, 0, none⟩ _ b (h.xa b hb2)).keepB (by simp [World.setCell]) fun b hb2 => Below.heap_setCell _ ⟨A, 1, none⟩ _ b (h.xa b hb2)

theorem same_v (x z : Dv) (w : World) (hx : DIn w x) (hz : DIn w z) (hxz : z.pl = x.pl) (hs : DSz x) : Calls Try.prog 14 #[.agg #[.slice x.oa x.o.length x.oc, .slice x.ta x.t.length x.tc], .agg #[.slice z.oa z.o.length z.oc, .slice z.ta z.t.length z.tc]] w (RetW (.bool true) w) := same_any x z w hx hz hxz hs
set_option maxRecDepth 100000 in
set_option maxHeartbeats 16000000 in
theorem undone_walk (a0 : Option Addr) (len0 cap0 : Nat) (w : World) (ha : ArgRow w a0 len0) (hl : len0 ≤ maxLen) :
    Calls Try.prog 5 #[.slice a0 len0 cap0] w (RetW (.bool true) w) := by
  have HT : Hid (TP w w.heap.size a0 len0 cap0 (w.alloc (.cells #[.slice a0 len0 cap0, .int .i64 0] 25))) := tape_start w a0 len0 cap0 ha hl
  have HN : Hid (∀ n W, 1 ≤ n → n ≤ 1000000 → TP w w.heap.size a0 len0 cap0 W → Calls Try.prog 8 #[.pointer (some ⟨w.heap.size, 0, none⟩), .int .i64 n] W fun e w' => ∃ r : Int, 0 ≤ r ∧ r < n ∧ e = .returned (.int .i64 r) ∧ Tick w.heap.size W w' ∧ TP w w.heap.size a0 len0 cap0 w') := fun n W h1 h2 h3 => next_tp n w W _ _ _ _ h1 h2 h3
  go_enter Try.func5, Try.ntmps5
  go_wp2_with fail
  generalize w.alloc (.cells #[.slice a0 len0 cap0, .int .i64 0] 25) = w1 at *
  refine (descs_v _ _ _ _ _ _ HT.out).mono ?_
  rintro e w2 ⟨x, rfl, hrt, hdi, hlo, hk, tp⟩
  have htl := HT.out.hi
  have hs1 := hk.size
  have hb4 : Below w2.heap.size w2 (w2.alloc (Obj.cells #[.slice x.oa x.o.length x.oc, .slice x.ta x.t.length x.tc] 29)) := (Below.refl _ _).alloc (Nat.le_refl _) _
  have HD : Hid (Us w w.heap.size w2.heap.size a0 len0 cap0 (w2.alloc (Obj.cells #[.slice x.oa x.o.length x.oc, .slice x.ta x.t.length x.tc] 29)) x) := by
    refine ⟨Bx.new w2 x, ⟨hdi.below hb4, fun b hb hm => ?_⟩, hrt, tp.below hb4 tp.hi, by omega, by omega⟩
    have h1 := hlo b hb
    have h2 := hdi.blk hb
    simp only [List.mem_cons, List.not_mem_nil, or_false] at hm
    omega
  clear HT hrt hdi hlo hk tp htl hs1 hb4
  go_upto_region 3 with (fail)
  generalize w2.alloc (Obj.cells #[.slice x.oa x.o.length x.oc, .slice x.ta x.t.length x.tc] 29) = w3 at *
  generalize w2.heap.size = D at *
  have hT1 : 1 ≤ (x.t.length : Int) := by have := HD.out.rt.t1; rw [pl_t] at this; omega
  have hT8 : (x.t.length : Int) ≤ 8 := by have := HD.out.rt.t8; rw [pl_t] at this; omega
  obtain ⟨x0, x1, x2, x3, x4⟩ := HD.out.box.cc
  go_wp2_with fail
  refine (HN.out _ _ (by omega) (by omega) HD.out.tp).mono ?_
  rintro e w4 ⟨p, hp0, hp1, rfl, htk, htp⟩
  replace HD := Lib.hid (HD.out.tick htk htp)
  clear htk htp x0 x1 x2 x3 x4
  go_upto_region 4 with (fail)
  go_cut [6, 7, 8] (fun s6 s7 s8 wx => ∃ (A : Nat) (y : Dv) (fi fl c : Int), s6 = .pointer (some ⟨A, 0, none⟩) ∧ s7 = .int .i64 (openF x.pl p fi fl c) ∧ s8 = .int .i64 (openE x.pl p fi fl c) ∧ Hid (y.pl = openD x.pl p fi fl c) ∧ Hid (Us w w.heap.size D a0 len0 cap0 wx x) ∧ Hid (Ua w w.heap.size D A wx x y))
  case first =>
    replace HD := Lib.hid (HD.out.below (Below.refl _ _).drew)
    obtain ⟨x0, x1, x2, x3, x4⟩ := HD.out.box.cc
    have x5 : D < w4.heap.size := x4
    have y0 : w4.cell? ⟨D, 0, none⟩ = some (.slice x.oa x.o.length x.oc) := x0
    have y1 : w4.cell? ⟨D, 1, none⟩ = some (.slice x.ta x.t.length x.tc) := x1
    go_region_held3 (fun w' => w'.cell? ⟨D, 0, none⟩ = some (.slice x.oa x.o.length x.oc) ∧ w'.cell? ⟨D, 1, none⟩ = some (.slice x.ta x.t.length x.tc)) (go_keep) (first | (go_at_call 8; refine (HN.out _ _ (by omega) (by omega) (by first | exact HD.out.tp | exact (HD.out.alloc _).tp)).mono ?_; rintro e wn ⟨r, hr0, hr1, rfl, htk, htp⟩; (first | (replace HD := Lib.hid (HD.out.tick htk htp); try (replace NA := Lib.hid (NA.out.tick htk))) | (have NA := Lib.hid ((Ua.newN HD.out).tick htk); (try rw [show w4.drew.heap.size = w4.heap.size from rfl] at NA); replace HD := Lib.hid ((HD.out.alloc _).tick htk htp))); clear htk htp; obtain ⟨x0, x1, x2, x3, x4⟩ := HD.out.box.cc) | (go_at_call 10; refine (open_v x _ _ _ _ _ (by first | exact HD.out.vi.di | exact (HD.out.alloc _).vi.di) HD.out.sz).mono ?_; rintro e wo ⟨y, rfl, hpl, ha, hb⟩; (first | (have HBE := Lib.hid (And.intro hb ha); have HDO := HD; have NAO := NA; replace NA := Lib.hid (NA.out.below hb); replace HD := Lib.hid (HD.out.below hb); obtain ⟨a0', a1', a2', a3', a4'⟩ := NA.out.box.cc; have nAD := NA.out.hAD; have nDA := NA.out.hAD.symm) | (have HBE := Lib.hid (And.intro hb ha); have HDO := HD; replace HD := Lib.hid (HD.out.below hb)) | (have HBE := Lib.hid (And.intro hb ha); have NAO := Lib.hid (Ua.newN HD.out); have HDO := Lib.hid (HD.out.alloc (.cells #[.slice none 0 0, .slice none 0 0] 29)); have NA := Lib.hid (NAO.out.below hb); replace HD := Lib.hid (HDO.out.below hb); obtain ⟨a0', a1', a2', a3', a4'⟩ := NA.out.box.cc; have nAD := NA.out.hAD; have nDA := NA.out.hAD.symm)); have HPLY := Lib.hid hpl; clear ha hb hpl; obtain ⟨x0, x1, x2, x3, x4⟩ := HD.out.box.cc))
    all_goals
      go_wp2_with fail
      go_meet
      first
      | exact ⟨_, y, _, _, _, rfl, rfl, rfl, HPLY, (NAO.out.put HDO.out HBE.out.1 HBE.out.2).2, (NAO.out.put HDO.out HBE.out.1 HBE.out.2).1⟩
      | exact ⟨_, y, _, _, _, rfl, rfl, rfl, HPLY, HD.out.alloc _, Ua.new HD.out y (HBE.out.2.vi HDO.out.vi HDO.out.vb)⟩
  case rest =>
    obtain ⟨A, y, fi, fl, c, rfl, rfl, rfl, HPY, HD, HA⟩ := hcut
    by_cases hE : openE x.pl p fi fl c = 0
    · rw [hE]
      obtain ⟨u1, u2, u3⟩ := undone_open HD.out.rt hE
      obtain ⟨a0', a1', a2', a3', a4'⟩ := HA.out.box.cc
      go_wp2_with fail
      have hry : Rt y.pl := by rw [HPY.out]; exact rt_open HD.out.rt
      have hcl := close_v y p (openF x.pl p fi fl c) _ HA.out.vi.di ((check_sz (rt_check hry)).sz rfl)
      rw [HPY.out, u1, u2, u3] at hcl
      refine hcl.mono ?_
      clear hcl
      rintro e wz ⟨z, rfl, hzp, hz, hb⟩
      replace HD := Lib.hid (HD.out.below hb)
      replace HA := Lib.hid (HA.out.below hb)
      have HZI := Lib.hid hz.di
      have HZP := Lib.hid hzp
      clear hz hzp hb a0' a1' a2' a3' a4' u1 u2 u3 hry
      go_upto_region 7 with (fail)
      have hb5 : Below wz.heap.size wz (wz.alloc (Obj.cells #[.slice z.oa z.o.length z.oc, .slice z.ta z.t.length z.tc] 29)) := (Below.refl _ _).alloc (Nat.le_refl _) _
      have c0 : (wz.alloc (Obj.cells #[.slice z.oa z.o.length z.oc, .slice z.ta z.t.length z.tc] 29)).cell? ⟨wz.heap.size, 0, none⟩ = some (.slice z.oa z.o.length z.oc) := by simp
      have c1 : (wz.alloc (Obj.cells #[.slice z.oa z.o.length z.oc, .slice z.ta z.t.length z.tc] 29)).cell? ⟨wz.heap.size, 1, none⟩ = some (.slice z.ta z.t.length z.tc) := by simp
      replace HD := Lib.hid (HD.out.below hb5)
      replace HA := Lib.hid (HA.out.below hb5)
      replace HZI := Lib.hid (HZI.out.below hb5)
      clear hb5
      generalize wz.alloc (Obj.cells #[.slice z.oa z.o.length z.oc, .slice z.ta z.t.length z.tc] 29) = wy at *
      obtain ⟨x0, x1, x2, x3, x4⟩ := HD.out.box.cc
      have HSZ : Hid (DSz z) := (check_sz (rt_check HD.out.rt)).sz HZP.out
      go_wp2_with fail
      refine (same_v z x _ HZI.out HD.out.vi.di HZP.out.symm HSZ.out).mono ?_
      rintro e ws ⟨rfl, hb⟩
      replace HD := Lib.hid (HD.out.below hb)
      replace HA := Lib.hid (HA.out.below hb)
      clear hb x0 x1 x2 x3 x4 c0 c1
      go_upto_region 9 with (fail)
      replace HD := Lib.hid (HD.out.below (Below.refl _ _).drew)
      replace HA := Lib.hid (HA.out.below (Below.refl _ _).drew)
      clear HPY
      obtain ⟨x0, x1, x2, x3, x4⟩ := HD.out.box.cc
      go_region_with (first | (go_at_call 8; refine (HN.out _ _ (by omega) (by omega) HD.out.tp).mono ?_; rintro e wn ⟨r, hr0, hr1, rfl, htk, htp⟩; replace HD := Lib.hid (HD.out.tick htk htp); replace HA := Lib.hid (HA.out.tick htk); clear htk htp; obtain ⟨x0, x1, x2, x3, x4⟩ := HD.out.box.cc) | (go_at_call 12; refine (dup_v x _ _ _ HD.out.vi.di HD.out.sz).mono ?_; rintro e wo ⟨y, rfl, hpl, ha, hb⟩; have HPQ := Lib.hid (HA.out.put HD.out hb ha); replace HA := Lib.hid (HA.out.below hb); replace HD := Lib.hid (HD.out.below hb); have HPY := Lib.hid hpl; clear ha hb hpl; obtain ⟨x0, x1, x2, x3, x4⟩ := HD.out.box.cc; obtain ⟨a0', a1', a2', a3', a4'⟩ := HA.out.box.cc; have nAD := HA.out.hAD; have nDA := HA.out.hAD.symm))
      all_goals
        clear HD HA
        have HD := Lib.hid HPQ.out.2
        have HA := Lib.hid HPQ.out.1
        clear HPQ x0 x1 x2 x3 x4 a0' a1' a2' a3' a4'
        generalize (World.setCell (World.setCell _ ⟨A, 0, none⟩ _) ⟨A, 1, none⟩ _) = w8 at *
        by_cases hE2 : dupE x.pl p r = 0
        · rw [hE2]
          obtain ⟨u1, u2, u3⟩ := undone_dup HD.out.rt hE2
          obtain ⟨a0', a1', a2', a3', a4'⟩ := HA.out.box.cc
          go_wp2_with fail
          have hry : Rt y.pl := by rw [HPY.out]; exact rt_dup HD.out.rt
          have hcl := close_v y p (dupF x.pl p r) _ HA.out.vi.di ((check_sz (rt_check hry)).sz rfl)
          rw [HPY.out, u1, u2, u3] at hcl
          refine hcl.mono ?_
          clear hcl
          rintro e wz ⟨z, rfl, hzp, hz, hb⟩
          replace HD := Lib.hid (HD.out.below hb)
          replace HA := Lib.hid (HA.out.below hb)
          have HZI := Lib.hid hz.di
          have HZP := Lib.hid hzp
          clear hz hzp hb a0' a1' a2' a3' a4' u1 u2 u3 hry
          go_upto_region 12 with (fail)
          have hb5 : Below wz.heap.size wz (wz.alloc (Obj.cells #[.slice z.oa z.o.length z.oc, .slice z.ta z.t.length z.tc] 29)) := (Below.refl _ _).alloc (Nat.le_refl _) _
          have c0 : (wz.alloc (Obj.cells #[.slice z.oa z.o.length z.oc, .slice z.ta z.t.length z.tc] 29)).cell? ⟨wz.heap.size, 0, none⟩ = some (.slice z.oa z.o.length z.oc) := by simp
          have c1 : (wz.alloc (Obj.cells #[.slice z.oa z.o.length z.oc, .slice z.ta z.t.length z.tc] 29)).cell? ⟨wz.heap.size, 1, none⟩ = some (.slice z.ta z.t.length z.tc) := by simp
          replace HD := Lib.hid (HD.out.below hb5)
          replace HA := Lib.hid (HA.out.below hb5)
          replace HZI := Lib.hid (HZI.out.below hb5)
          clear hb5
          generalize wz.alloc (Obj.cells #[.slice z.oa z.o.length z.oc, .slice z.ta z.t.length z.tc] 29) = wy at *
          obtain ⟨x0, x1, x2, x3, x4⟩ := HD.out.box.cc
          have HSZ : Hid (DSz z) := (check_sz (rt_check HD.out.rt)).sz HZP.out
          go_wp2_with fail
          refine (same_v z x _ HZI.out HD.out.vi.di HZP.out.symm HSZ.out).mono ?_
          rintro e ws ⟨rfl, hb⟩
          replace HD := Lib.hid (HD.out.below hb)
          replace HA := Lib.hid (HA.out.below hb)
          clear hb x0 x1 x2 x3 x4 c0 c1
          go_wp2_with fail
          refine (awake_any _).mono ?_
          rintro e wl ⟨rfl, hb⟩
          go_wp2_with fail
          go_ret
          exact RetW.mk rfl (HD.out.tp.bel.trans (hb.mono HD.out.tp.bel.size))
        · have hE3 : (dupE x.pl p r == 0) = false := by simpa using hE2
          clear hE2
          go_wp2_with fail
          refine (awake_any _).mono ?_
          rintro e wl ⟨rfl, hb⟩
          go_wp2_with fail
          go_ret
          exact RetW.mk rfl (HD.out.tp.bel.trans (hb.mono HD.out.tp.bel.size))
    · have hE3 : (openE x.pl p fi fl c == 0) = false := by simpa using hE
      clear hE
      go_upto_region 9 with (fail)
      replace HD := Lib.hid (HD.out.below (Below.refl _ _).drew)
      replace HA := Lib.hid (HA.out.below (Below.refl _ _).drew)
      clear HPY
      obtain ⟨x0, x1, x2, x3, x4⟩ := HD.out.box.cc
      go_region_with (first | (go_at_call 8; refine (HN.out _ _ (by omega) (by omega) HD.out.tp).mono ?_; rintro e wn ⟨r, hr0, hr1, rfl, htk, htp⟩; replace HD := Lib.hid (HD.out.tick htk htp); replace HA := Lib.hid (HA.out.tick htk); clear htk htp; obtain ⟨x0, x1, x2, x3, x4⟩ := HD.out.box.cc) | (go_at_call 12; refine (dup_v x _ _ _ HD.out.vi.di HD.out.sz).mono ?_; rintro e wo ⟨y, rfl, hpl, ha, hb⟩; have HPQ := Lib.hid (HA.out.put HD.out hb ha); replace HA := Lib.hid (HA.out.below hb); replace HD := Lib.hid (HD.out.below hb); have HPY := Lib.hid hpl; clear ha hb hpl; obtain ⟨x0, x1, x2, x3, x4⟩ := HD.out.box.cc; obtain ⟨a0', a1', a2', a3', a4'⟩ := HA.out.box.cc; have nAD := HA.out.hAD; have nDA := HA.out.hAD.symm))
      all_goals
        clear HD HA
        have HD := Lib.hid HPQ.out.2
        have HA := Lib.hid HPQ.out.1
        clear HPQ x0 x1 x2 x3 x4 a0' a1' a2' a3' a4'
        generalize (World.setCell (World.setCell _ ⟨A, 0, none⟩ _) ⟨A, 1, none⟩ _) = w8 at *
        by_cases hE2 : dupE x.pl p r = 0
        · rw [hE2]
          obtain ⟨u1, u2, u3⟩ := undone_dup HD.out.rt hE2
          obtain ⟨a0', a1', a2', a3', a4'⟩ := HA.out.box.cc
          go_wp2_with fail
          have hry : Rt y.pl := by rw [HPY.out]; exact rt_dup HD.out.rt
          have hcl := close_v y p (dupF x.pl p r) _ HA.out.vi.di ((check_sz (rt_check hry)).sz rfl)
          rw [HPY.out, u1, u2, u3] at hcl
          refine hcl.mono ?_
          clear hcl
          rintro e wz ⟨z, rfl, hzp, hz, hb⟩
          replace HD := Lib.hid (HD.out.below hb)
          replace HA := Lib.hid (HA.out.below hb)
          have HZI := Lib.hid hz.di
          have HZP := Lib.hid hzp
          clear hz hzp hb a0' a1' a2' a3' a4' u1 u2 u3 hry
          go_upto_region 12 with (fail)
          have hb5 : Below wz.heap.size wz (wz.alloc (Obj.cells #[.slice z.oa z.o.length z.oc, .slice z.ta z.t.length z.tc] 29)) := (Below.refl _ _).alloc (Nat.le_refl _) _
          have c0 : (wz.alloc (Obj.cells #[.slice z.oa z.o.length z.oc, .slice z.ta z.t.length z.tc] 29)).cell? ⟨wz.heap.size, 0, none⟩ = some (.slice z.oa z.o.length z.oc) := by simp
          have c1 : (wz.alloc (Obj.cells #[.slice z.oa z.o.length z.oc, .slice z.ta z.t.length z.tc] 29)).cell? ⟨wz.heap.size, 1, none⟩ = some (.slice z.ta z.t.length z.tc) := by simp
          replace HD := Lib.hid (HD.out.below hb5)
          replace HA := Lib.hid (HA.out.below hb5)
          replace HZI := Lib.hid (HZI.out.below hb5)
          clear hb5
          generalize wz.alloc (Obj.cells #[.slice z.oa z.o.length z.oc, .slice z.ta z.t.length z.tc] 29) = wy at *
          obtain ⟨x0, x1, x2, x3, x4⟩ := HD.out.box.cc
          have HSZ : Hid (DSz z) := (check_sz (rt_check HD.out.rt)).sz HZP.out
          go_wp2_with fail
          refine (same_v z x _ HZI.out HD.out.vi.di HZP.out.symm HSZ.out).mono ?_
          rintro e ws ⟨rfl, hb⟩
          replace HD := Lib.hid (HD.out.below hb)
          replace HA := Lib.hid (HA.out.below hb)
          clear hb x0 x1 x2 x3 x4 c0 c1
          go_wp2_with fail
          refine (awake_any _).mono ?_
          rintro e wl ⟨rfl, hb⟩
          go_wp2_with fail
          go_ret
          exact RetW.mk rfl (HD.out.tp.bel.trans (hb.mono HD.out.tp.bel.size))
        · have hE3 : (dupE x.pl p r == 0) = false := by simpa using hE2
          clear hE2
          go_wp2_with fail
          refine (awake_any _).mono ?_
          rintro e wl ⟨rfl, hb⟩
          go_wp2_with fail
          go_ret
          exact RetW.mk rfl (HD.out.tp.bel.trans (hb.mono HD.out.tp.bel.size))
end Go.Proofs.Ytflcbefomjlgmaa
