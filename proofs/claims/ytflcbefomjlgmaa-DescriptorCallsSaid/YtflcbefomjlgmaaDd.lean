/- Descriptors drawn from a tape. -/
import Derived.Test.YtflcbefomjlgmaaVa
set_option linter.unusedSimpArgs false
set_option linter.unusedVariables false
namespace Go.Proofs.Ytflcbefomjlgmaa
open Go.ChangeShapes Go.WideShapes Go.ChangeAt Go.RowKit

/-- in the midst of drawing descriptors: variable D has x, R is the answer's variable -/
structure Ds (w0 w : World) (t R D : Nat) (a : Option Addr) (len cap : Nat) (W : World) (x : Dv) : Prop where
  box : Bx W D x
  vi : Vi W [t, R, D] x
  lo : ∀ b, DBlk x b → w.heap.size ≤ b
  rt : Rt x.pl
  r : At W R [.slice none 0 0, .slice none 0 0]
  tk : Tock t w W
  tp : TP w0 t a len cap W
  ht : t < w.heap.size
  hR : w.heap.size ≤ R
  hD : w.heap.size ≤ D
  hRD : R ≠ D
theorem Ds.tick {w0 w W W' : World} {t R D : Nat} {a : Option Addr} {len cap : Nat} {x : Dv} (h : Ds w0 w t R D a len cap W x) (hk : Tick t W W') (hp : TP w0 t a len cap W') : Ds w0 w t R D a len cap W' x :=
  ⟨h.box.tick hk (by have := h.ht; have := h.hD; omega), h.vi.tick hk (by simp), h.lo, h.rt, h.r.tick hk (by have := h.ht; have := h.hR; omega), h.tk.trans hk.tock, hp, h.ht, h.hR, h.hD, h.hRD⟩
theorem Ds.below {w0 w W W' : World} {t R D : Nat} {a : Option Addr} {len cap : Nat} {x : Dv} (h : Ds w0 w t R D a len cap W x) (hb : Below W.heap.size W W') : Ds w0 w t R D a len cap W' x :=
  ⟨h.box.below hb h.box.at'.hi, h.vi.below hb, h.lo, h.rt, h.r.below hb h.r.hi, h.tk.trans (Tock.ofBelow hb (Nat.le_refl _)), h.tp.below hb h.tp.hi, h.ht, h.hR, h.hD, h.hRD⟩
theorem Tock.far {t D : Nat} {w W : World} (h : Tock t w W) (hD : w.heap.size ≤ D) (o : Nat) (v : Value) : Tock t w (W.setCell ⟨D, o, none⟩ v) :=
  ⟨h.os, h.tape, h.output, by simpa [World.setCell] using h.size, fun k hk hl => (Below.heap_setCell W ⟨D, o, none⟩ v k (by show k ≠ D; omega)).trans (h.block k hk hl)⟩
theorem Ds.put {w0 w W W2 : World} {t R D : Nat} {a : Option Addr} {len cap : Nat} {x y : Dv} (h : Ds w0 w t R D a len cap W2 x) (hw : Ds w0 w t R D a len cap W x) (hs : Below W.heap.size W W2) (ha : DAns W x W2 y) (hr : Rt y.pl) (h0 : w0.heap.size ≤ D) :
    Ds w0 w t R D a len cap ((W2.setCell ⟨D, 0, none⟩ (.slice y.oa y.o.length y.oc)).setCell ⟨D, 1, none⟩ (.slice y.ta y.t.length y.tc)) y := by
  have hv := ha.vi hw.vi (fun b hb => by
    simp only [List.mem_cons, List.not_mem_nil, or_false] at hb
    rcases hb with rfl | rfl | rfl
    · have := hw.ht; have := hw.tk.size; omega
    · exact hw.r.hi
    · exact hw.box.at'.hi)
  have htD : t ≠ D := by have := h.ht; have := h.hD; omega
  refine ⟨h.box.put y, (hv.set (by simp) _ _).set (by simp) _ _, fun b hb => ?_, hr, (h.r.apart h.hRD 0 [_]).apart h.hRD 1 [_], (h.tk.far h.hD _ _).far h.hD _ _, (h.tp.set h0 htD _ _).set h0 htD _ _, h.ht, h.hR, h.hD, h.hRD⟩
  rcases ha.blk b hb with h1 | h1
  · exact hw.lo b h1
  · have := hw.tk.size; omega

def DescPost (w0 w : World) (t : Nat) (a : Option Addr) (len cap : Nat) (e : Ending) (w' : World) : Prop := ∃ x : Dv, e = .returned (dVal x) ∧ Rt x.pl ∧ DIn w' x ∧ (∀ b, DBlk x b → w.heap.size ≤ b) ∧ Tock t w w' ∧ TP w0 t a len cap w'
set_option maxHeartbeats 8000000 in
theorem descs_any (w0 w : World) (t : Nat) (a : Option Addr) (len cap : Nat) (h : TP w0 t a len cap w) :
    Calls Try.prog 29 #[.pointer (some ⟨t, 0, none⟩)] w (DescPost w0 w t a len cap) := by
  have HT := Lib.hid h
  have hlt := h.hi
  have hlo := h.lo
  have HN : Hid (∀ n W, 1 ≤ n → n ≤ 1000000 → TP w0 t a len cap W → Calls Try.prog 8 #[.pointer (some ⟨t, 0, none⟩), .int .i64 n] W fun e w' => ∃ r : Int, 0 ≤ r ∧ r < n ∧ e = .returned (.int .i64 r) ∧ Tick t W w' ∧ TP w0 t a len cap w') := fun n W h1 h2 h3 => next_tp n w0 W t a len cap h1 h2 h3
  have HP : Hid (∀ (x : Dv) w', Rt x.pl → DIn w' x → (∀ b, DBlk x b → w.heap.size ≤ b) → Tock t w w' → TP w0 t a len cap w' → DescPost w0 w t a len cap (.returned (.agg #[.slice x.oa x.o.length x.oc, .slice x.ta x.t.length x.tc])) w') := fun x w' h1 h2 h3 h4 h5 => ⟨x, rfl, h1, h2, h3, h4, h5⟩
  generalize DescPost w0 w t a len cap = Post at *
  have hT1 := HT.out.below ((Below.refl w.heap.size w).alloc (Nat.le_refl _) (Obj.cells #[.slice none 0 0, .slice none 0 0] 29)) hlt
  have hR1 := At.new w [.slice none 0 0, .slice none 0 0] 29
  have hK1 : Tock t w (w.alloc (Obj.cells #[.slice none 0 0, .slice none 0 0] 29)) := Tock.ofBelow ((Below.refl w.heap.size w).alloc (Nat.le_refl _) _) (Nat.le_refl _)
  have HT1 := Lib.hid hT1
  have HR1 := Lib.hid hR1
  have HK1 := Lib.hid hK1
  clear h hT1 hR1 hK1
  go_enter Try.func29, Try.ntmps29
  go_wp2_with fail
  generalize w.alloc (Obj.cells #[.slice none 0 0, .slice none 0 0] 29) = wa at *
  refine (HN.out _ _ (by omega) (by omega) HT1.out).mono ?_
  rintro e w1 ⟨r, hr0, hr1, rfl, htk, htp⟩
  have HT2 := Lib.hid htp
  have HR2 := Lib.hid (HR1.out.tick htk (by omega))
  have HK2 := Lib.hid (HK1.out.trans htk.tock)
  clear htk htp HT1 HR1 HK1
  go_wp2_with fail
  refine (new26_v (1 + r) w1).mono ?_
  rintro e w2 ⟨y, rfl, hpl, ha, hb⟩
  have hr : Rt y.pl := by rw [hpl]; exact rt_new (by unfold newE; rw [if_pos (by omega)])
  have hnb : ∀ b, DBlk y b → w1.heap.size ≤ b := fun b hb2 => by
    rcases ha.blk b hb2 with h1 | h1
    · rcases h1 with ⟨q, h1, _⟩ | ⟨q, h1, _⟩ | ⟨z, hz, _⟩
      · cases h1
      · cases h1
      · cases hz
    · exact h1
  have hs1 := HK2.out.size
  have hs2 := hb.size
  have hRlt := HR2.out.hi
  have hT3 := HT2.out.below hb HT2.out.hi
  have hR3 := HR2.out.below hb HR2.out.hi
  have hK3 := HK2.out.trans (Tock.ofBelow hb (Nat.le_refl _))
  have hdi := ha.di
  clear ha hb hpl HT2 HR2 HK2
  have hb4 : Below w2.heap.size w2 (w2.alloc (Obj.cells #[.slice y.oa y.o.length y.oc, .slice y.ta y.t.length y.tc] 29)) := (Below.refl _ _).alloc (Nat.le_refl _) _
  have HD : Hid (Ds w0 w t w.heap.size w2.heap.size a len cap (w2.alloc (Obj.cells #[.slice y.oa y.o.length y.oc, .slice y.ta y.t.length y.tc] 29)) y) := by
    refine ⟨Bx.new w2 y, ⟨hdi.below hb4, fun b hb hm => ?_⟩, fun b hb => ?_, hr, hR3.below hb4 hR3.hi, hK3.trans (Tock.ofBelow hb4 (Nat.le_refl _)), hT3.below hb4 hT3.hi, hlt, Nat.le_refl _, by omega, by omega⟩
    · have h1 := hnb b hb
      have h2 := hdi.blk hb
      simp only [List.mem_cons, List.not_mem_nil, or_false] at hm
      rcases hm with rfl | rfl | rfl <;> omega
    · have h1 := hnb b hb
      omega
  have hD0 : w0.heap.size ≤ w2.heap.size := by omega
  have hDR : w.heap.size ≠ w2.heap.size := by omega
  clear hb4 hdi hR3 hT3 hK3 hnb hr hs1 hs2 hRlt
  go_upto_region 2 with (fail)
  generalize w2.alloc (Obj.cells #[.slice y.oa y.o.length y.oc, .slice y.ta y.t.length y.tc] 29) = w3 at *
  generalize w2.heap.size = D at *
  go_wp2_with fail
  refine (HN.out _ _ (by omega) (by omega) HD.out.tp).mono ?_
  rintro e w4 ⟨n, hn0, hn1, rfl, htk, htp⟩
  replace HD := Lib.hid (HD.out.tick htk htp)
  clear htk htp
  obtain ⟨n, rfl⟩ := Int.eq_ofNat_of_zero_le hn0
  go_wp2_with fail
  go_loopw [5] (fun v5 wr => ∃ (n : Nat) (x : Dv), v5 = .int .i64 n ∧ n ≤ 14 ∧ Hid (Ds w0 w t w.heap.size D a len cap wr x)) (fun v5 _ => (intOf v5).toNat)
  case atStart => exact ⟨n, y, rfl, by omega, HD⟩
  case round =>
    clear HD
    obtain ⟨n, x, rfl, hn14, HD⟩ := hrel
    obtain ⟨x0, x1, x2, x3, x4⟩ := HD.out.box.cc
    by_cases hn : 0 < n
    · have hn' : (0 : Int) < (n : Int) := by omega
      have hT1 : 1 ≤ (x.t.length : Int) := by have := HD.out.rt.t1; rw [pl_t] at this; omega
      have hT8 : (x.t.length : Int) ≤ 8 := by have := HD.out.rt.t8; rw [pl_t] at this; omega
      have HSZ : Hid (DSz x) := (check_sz (rt_check HD.out.rt)).sz rfl
      have hwn : IntKind.i64.wrap ((n : Int) - 1) = (n : Int) - 1 := IntWalk.i64_in _ (by omega)
      go_wp2_with fail
      refine (HN.out _ _ (by omega) (by omega) HD.out.tp).mono ?_; rintro e w1 ⟨p, hp0, hp1, rfl, htk, htp⟩; replace HD := Lib.hid (HD.out.tick htk htp); clear htk htp; obtain ⟨x0, x1, x2, x3, x4⟩ := HD.out.box.cc
      go_wp2_with fail
      refine (HN.out _ _ (by omega) (by omega) HD.out.tp).mono ?_; rintro e w2 ⟨k, hk0, hk1, rfl, htk, htp⟩; replace HD := Lib.hid (HD.out.tick htk htp); clear htk htp; obtain ⟨x0, x1, x2, x3, x4⟩ := HD.out.box.cc
      have hk5 : k = 0 ∨ k = 1 ∨ k = 2 ∨ k = 3 ∨ k = 4 := by omega
      clear hk0 hk1
      rcases hk5 with rfl | rfl | rfl | rfl | rfl
      · go_wp2_with fail
        replace HD := Lib.hid (HD.out.below (Below.refl _ _).drew)
        obtain ⟨x0, x1, x2, x3, x4⟩ := HD.out.box.cc
        (first | go_region_with (first | (go_at_call 8; refine (HN.out _ _ (by omega) (by omega) HD.out.tp).mono ?_; rintro e wn ⟨r, hr0, hr1, rfl, htk, htp⟩; replace HD := Lib.hid (HD.out.tick htk htp); clear htk htp; obtain ⟨x0, x1, x2, x3, x4⟩ := HD.out.box.cc) | (go_at_call 11; refine (openR_v x _ _ _ _ _ HD.out.vi.di HSZ.out).mono ?_; rintro e wc ⟨y, rfl, hpl, ha, hb⟩; have HB := Lib.hid ((HD.out.below hb).put HD.out hb ha (by rw [hpl]; exact rt_open HD.out.rt) hD0); replace HD := Lib.hid (HD.out.below hb); clear ha hb hpl; obtain ⟨x0, x1, x2, x3, x4⟩ := HD.out.box.cc)) | fail)
        all_goals
          clear HD
          generalize (World.setCell (World.setCell _ _ _) _ _) = w8 at *
          go_wp2_with fail
          go_roundw
          case rel => exact ⟨n - 1, y, by go_num, by omega, HB⟩
          case measure => simp [intOf]; omega
      · go_wp2_with fail
        replace HD := Lib.hid (HD.out.below (Below.refl _ _).drew)
        obtain ⟨x0, x1, x2, x3, x4⟩ := HD.out.box.cc
        (first | go_region_with (first | (go_at_call 8; refine (HN.out _ _ (by omega) (by omega) HD.out.tp).mono ?_; rintro e wn ⟨r, hr0, hr1, rfl, htk, htp⟩; replace HD := Lib.hid (HD.out.tick htk htp); clear htk htp; obtain ⟨x0, x1, x2, x3, x4⟩ := HD.out.box.cc) | (go_at_call 11; refine (openR_v x _ _ _ _ _ HD.out.vi.di HSZ.out).mono ?_; rintro e wc ⟨y, rfl, hpl, ha, hb⟩; have HB := Lib.hid ((HD.out.below hb).put HD.out hb ha (by rw [hpl]; exact rt_open HD.out.rt) hD0); replace HD := Lib.hid (HD.out.below hb); clear ha hb hpl; obtain ⟨x0, x1, x2, x3, x4⟩ := HD.out.box.cc)) | fail)
        all_goals
          clear HD
          generalize (World.setCell (World.setCell _ _ _) _ _) = w8 at *
          go_wp2_with fail
          go_roundw
          case rel => exact ⟨n - 1, y, by go_num, by omega, HB⟩
          case measure => simp [intOf]; omega
      · go_wp2_with fail
        replace HD := Lib.hid (HD.out.below (Below.refl _ _).drew)
        obtain ⟨x0, x1, x2, x3, x4⟩ := HD.out.box.cc
        (first | go_region_with (first | (go_at_call 8; refine (HN.out _ _ (by omega) (by omega) HD.out.tp).mono ?_; rintro e wn ⟨r, hr0, hr1, rfl, htk, htp⟩; replace HD := Lib.hid (HD.out.tick htk htp); clear htk htp; obtain ⟨x0, x1, x2, x3, x4⟩ := HD.out.box.cc) | (go_at_call 13; refine (dupR_v x _ _ _ HD.out.vi.di HSZ.out).mono ?_; rintro e wc ⟨y, rfl, hpl, ha, hb⟩; have HB := Lib.hid ((HD.out.below hb).put HD.out hb ha (by rw [hpl]; exact rt_dup HD.out.rt) hD0); replace HD := Lib.hid (HD.out.below hb); clear ha hb hpl; obtain ⟨x0, x1, x2, x3, x4⟩ := HD.out.box.cc)) | fail)
        all_goals
          clear HD
          generalize (World.setCell (World.setCell _ _ _) _ _) = w8 at *
          go_wp2_with fail
          go_roundw
          case rel => exact ⟨n - 1, y, by go_num, by omega, HB⟩
          case measure => simp [intOf]; omega
      · go_wp2_with fail
        replace HD := Lib.hid (HD.out.below (Below.refl _ _).drew)
        obtain ⟨x0, x1, x2, x3, x4⟩ := HD.out.box.cc
        (first | go_region_with (first | (go_at_call 8; refine (HN.out _ _ (by omega) (by omega) HD.out.tp).mono ?_; rintro e wn ⟨r, hr0, hr1, rfl, htk, htp⟩; replace HD := Lib.hid (HD.out.tick htk htp); clear htk htp; obtain ⟨x0, x1, x2, x3, x4⟩ := HD.out.box.cc) | (go_at_call 18; refine (closeR_v x _ _ _ HD.out.vi.di HSZ.out).mono ?_; rintro e wc ⟨y, rfl, hpl, ha, hb⟩; have HB := Lib.hid ((HD.out.below hb).put HD.out hb ha (by rw [hpl]; exact rt_close HD.out.rt) hD0); replace HD := Lib.hid (HD.out.below hb); clear ha hb hpl; obtain ⟨x0, x1, x2, x3, x4⟩ := HD.out.box.cc)) | fail)
        all_goals
          clear HD
          generalize (World.setCell (World.setCell _ _ _) _ _) = w8 at *
          go_wp2_with fail
          go_roundw
          case rel => exact ⟨n - 1, y, by go_num, by omega, HB⟩
          case measure => simp [intOf]; omega
      · go_wp2_with fail
        replace HD := Lib.hid (HD.out.below (Below.refl _ _).drew)
        obtain ⟨x0, x1, x2, x3, x4⟩ := HD.out.box.cc
        (first | go_region_with (first | (go_at_call 8; refine (HN.out _ _ (by omega) (by omega) HD.out.tp).mono ?_; rintro e wn ⟨r, hr0, hr1, rfl, htk, htp⟩; replace HD := Lib.hid (HD.out.tick htk htp); clear htk htp; obtain ⟨x0, x1, x2, x3, x4⟩ := HD.out.box.cc) | (go_at_call 16; refine (forkR_v x _ _ _ HD.out.vi.di HSZ.out).mono ?_; rintro e wc ⟨y, rfl, hpl, ha, hb⟩; have HB := Lib.hid ((HD.out.below hb).put HD.out hb ha (by rw [hpl]; exact rt_fork HD.out.rt) hD0); replace HD := Lib.hid (HD.out.below hb); clear ha hb hpl; obtain ⟨x0, x1, x2, x3, x4⟩ := HD.out.box.cc)) | fail)
        all_goals
          clear HD
          generalize (World.setCell (World.setCell _ _ _) _ _) = w8 at *
          go_wp2_with fail
          go_roundw
          case rel => exact ⟨n - 1, y, by go_num, by omega, HB⟩
          case measure => simp [intOf]; omega
    · obtain rfl : n = 0 := by omega
      obtain ⟨r0, r1, r2, r3, r4⟩ := HD.out.r.two
      have hA5 := ret_ab HD.out.r (.slice x.oa x.o.length x.oc) (.slice x.ta x.t.length x.tc)
      have e0 := hA5.cell 0 _ rfl
      have e1 := hA5.cell 1 _ rfl
      have hvi := (HD.out.vi.set (D := w.heap.size) (by simp) 0 (.slice x.oa x.o.length x.oc)).set (D := w.heap.size) (by simp) 1 (.slice x.ta x.t.length x.tc)
      have htw : t ≠ w.heap.size := by omega
      have HPo := Lib.hid (HP.out x _ HD.out.rt hvi.di HD.out.lo ((HD.out.tk.far (Nat.le_refl _) _ _).far (Nat.le_refl _) _ _) ((HD.out.tp.set (by omega) htw _ _).set (by omega) htw _ _))
      clear hA5 hvi
      go_wp2_with fail
      generalize ((wr.setCell ⟨w.heap.size, 0, none⟩ (.slice x.oa x.o.length x.oc)).setCell ⟨w.heap.size, 1, none⟩ (.slice x.ta x.t.length x.tc)) = w9 at *
      exact bodyPost_ret (v := .agg #[.slice x.oa x.o.length x.oc, .slice x.ta x.t.length x.tc]) (by simp [results, Try.results29, go_sem, e0, e1]) rfl HPo.out
end Go.Proofs.Ytflcbefomjlgmaa
