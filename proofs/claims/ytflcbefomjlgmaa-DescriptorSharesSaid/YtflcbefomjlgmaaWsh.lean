/- The walk of DescriptorShares. -/
import Derived.Test.YtflcbefomjlgmaaSs
import Derived.Test.YtflcbefomjlgmaaAwk
import Derived.Deep.CutBlock
set_option linter.unusedSimpArgs false
set_option linter.unusedVariables false
namespace Go.Proofs.Ytflcbefomjlgmaa
open Go.ChangeShapes Go.WideShapes Go.ChangeAt Go.RowKit

def who0 : List (List Int) := List.replicate 3 (List.replicate 16 0)
theorem newE3 : newE 3 = 0 := by decide
theorem sh_new : Sh (newD 3) who0 [] (fun z => z) := by
  have e : (newD 3).t = who0 := by decide
  have hz : ∀ z, z ∈ (newD 3).t.flatten → z = 0 := by rw [e]; decide
  refine ⟨rt_new newE3, by rw [e]; rfl, rfl, by rw [e]; decide, fun q hq => ?_, fun q k hq => ?_⟩
  · have := hz _ hq; omega
  · have := hz _ hq; omega
theorem tape_start2 (w : World) (a : Option Addr) (len cap : Nat) (ha : ArgRow w a len) (hl : len ≤ maxLen) : TP w w.heap.size a len cap (w.alloc (.cells #[.slice a len cap, .int .i64 0] 25)) :=
  ⟨0, ha, Nat.le_refl _, by simp, (Below.refl _ _).alloc (Nat.le_refl _) _, by simp, by simp, by simp, Nat.zero_le _, hl⟩
theorem end_tp (w0 w : World) (t : Nat) (a : Option Addr) (len cap : Nat) (h : TP w0 t a len cap w) :
    Calls Try.prog 28 #[.pointer (some ⟨t, 0, none⟩)] w fun e w' => ∃ (b : Bool) (q : Nat), e = .returned (.bool b) ∧ w' = w.drewN q := by
  obtain ⟨k, h⟩ := h
  exact (end_any w0 w t a len cap k h).mono fun e w' ⟨q, h1, h2⟩ => ⟨_, q, h1, h2⟩
theorem new3_v (W : World) : Calls Try.prog 25 #[.int .i64 3] W fun e w' => ∃ y : Dv, e = .returned (.tuple #[.agg #[.slice y.oa y.o.length y.oc, .slice y.ta y.t.length y.tc], .int .i64 0]) ∧ y.pl = newD 3 ∧ DAns W Dv.nil w' y ∧ Below W.heap.size W w' := by
  have h := new25_v 3 W
  rw [newE3] at h
  exact h
theorem check_t (x : Dv) (W : World) (h : DIn W x) (hr : Rt x.pl) : Calls Try.prog 23 #[.agg #[.slice x.oa x.o.length x.oc, .slice x.ta x.t.length x.tc]] W (RetW (.bool true) W) := by
  have hz : DSz x := (check_sz (rt_check hr)).sz rfl
  have h1 := check_any' x W h hz.o hz.t
  rw [rt_check hr] at h1
  exact h1
theorem look_s (x : Dv) (p f n q : Int) (b : Dn) (w : World) (h : DIn w x) (hr : Rt x.pl) (hn : n = numV x.pl p f ∧ q = numE x.pl p f ∧ b = lookV x.pl p f) :
    Calls Try.prog 19 #[.agg #[.slice x.oa x.o.length x.oc, .slice x.ta x.t.length x.tc], .int .i64 p, .int .i64 f] w (RetW (.tuple #[.int .i64 n, .agg #[.int .i64 b.fi, .int .i64 b.fl, .int .i64 b.f, .int .i64 b.cu, .int .i64 b.rf], .int .i64 q]) w) := by
  obtain ⟨rfl, rfl, rfl⟩ := hn
  exact lookup_any x p f w h ((check_sz (rt_check hr)).sz rfl)
/-- the first n of a row are free -/
def freeB (l : List Int) (n : Nat) : Bool := (l.take n).all (fun z => z == 0)
theorem freeB_zero (l : List Int) : freeB l 0 = true := by simp [freeB]
theorem freeB_succ (l : List Int) (n : Nat) (hn : n < l.length) : freeB l (n + 1) = (freeB l n && (l.getD n 0 == 0)) := by
  unfold freeB
  rw [List.take_add_one, List.all_append, List.getElem?_eq_getElem hn, getD_get hn]
  simp
theorem freeB_true (l : List Int) (h : l.length = 16) : freeB l 16 = true ↔ ∀ k, k < 16 → l.getD k 0 = 0 := by
  unfold freeB
  rw [List.take_of_length_le (by omega), List.all_eq_true]
  constructor
  · intro a k hk
    have hl : k < l.length := by omega
    rw [getD_get hl]
    exact eq_of_beq (a _ (List.getElem_mem hl))
  · intro a z hz
    obtain ⟨i, hi, rfl⟩ := List.getElem_of_mem hz
    have := a i (by omega)
    rw [getD_get hi] at this
    rw [this]; rfl
/-- a variable Y apart from the others -/
structure Sy (Q Y : Nat) (oa : Option Addr) (W : World) (x : Dv) (cs : List Value) : Prop where
  at' : At W Y cs
  na : ∀ q, oa = some q → q.block ≠ Y
  xa : ∀ b, DBlk x b → b ≠ Y
  lo : Q < Y
section
variable {w W W' W2 : World} {t D Q N Y : Nat} {a : Option Addr} {len cap : Nat} {x y z : Dv} {who : List (List Int)} {oa : Option Addr} {oc : Nat} {off : List Int} {cs : List Value}
theorem Sy.new (h : Ss w t D Q a len cap W x who oa oc off) (cs : List Value) (T : TypeId) : Sy Q W.heap.size oa (W.alloc (.cells cs.toArray T)) x cs :=
  ⟨At.new W cs T, fun q hq => by have := (h.obl q hq).2; omega, fun b hb => by have := h.vi.di.blk hb; omega, h.wh.hi⟩
theorem Sy.below (h : Sy Q Y oa W x cs) (hb : Below W.heap.size W W') : Sy Q Y oa W' x cs := ⟨h.at'.below hb h.at'.hi, h.na, h.xa, h.lo⟩
theorem Sy.tick (h : Sy Q Y oa W x cs) (ht : t < Y) (hk : Tick t W W') : Sy Q Y oa W' x cs := ⟨h.at'.tick hk (by omega), h.na, h.xa, h.lo⟩
theorem Sy.set (h : Sy Q Y oa W x cs) (i : Nat) (v : Value) : Sy Q Y oa (W.setCell ⟨Y, i, none⟩ v) x (cs.set i v) := ⟨h.at'.set i v, h.na, h.xa, h.lo⟩
theorem Ss.far (h : Ss w t D Q a len cap W x who oa oc off) (hy : Sy Q Y oa W x cs) (i : Nat) (v : Value) : Ss w t D Q a len cap (W.setCell ⟨Y, i, none⟩ v) x who oa oc off := by
  have h3 := h.tD
  have h4 := h.DQ
  have h5 := h.tp.lo
  have h6 := hy.lo
  have hne : ∀ q, (Value.slice oa off.length oc).ownBlock = some q → q ≠ Y := fun q hq => by
    cases ho : oa with
    | none => rw [ho] at hq; cases hq
    | some p => rw [ho] at hq; have : p.block = q := by simpa [Value.ownBlock] using hq
                rw [← this]; exact hy.na p ho
  exact ⟨h.tp.set (by omega) (by omega) _ _, h.box.other (p := ⟨Y, i, none⟩) (by show D ≠ Y; omega) _, ⟨h.vi.di.keepB (by simp [World.setCell]) fun b hb => Below.heap_setCell W ⟨Y, i, none⟩ _ b (hy.xa b hb), h.vi.out⟩, h.wh.setOther (x := ⟨Y, i, none⟩) (by show Q ≠ Y; omega) _, own_apart h.own _ _ hne, h.ap, h3, h4, h.wl, h.w16⟩
theorem Ss.sz {m : Int → Int} (h : Sh x.pl who off m) : DSz x := (check_sz (rt_check h.rt)).sz rfl
end
theorem size51 : (Try.prog.info? 51).map (·.size) = some 16 := by kernel_rfl
set_option maxRecDepth 100000 in
set_option maxHeartbeats 16000000 in
theorem shares_walk (a0 : Option Addr) (len0 cap0 : Nat) (w : World) (ha : ArgRow w a0 len0) (hl : len0 ≤ maxLen) :
    Calls Try.prog 4 #[.slice a0 len0 cap0] w (RetW (.bool true) w) := by
  have HT : Hid (TP w w.heap.size a0 len0 cap0 (w.alloc (.cells #[.slice a0 len0 cap0, .int .i64 0] 25))) := tape_start2 w a0 len0 cap0 ha hl
  have HN : Hid (∀ n W, 1 ≤ n → n ≤ 1000000 → TP w w.heap.size a0 len0 cap0 W → Calls Try.prog 8 #[.pointer (some ⟨w.heap.size, 0, none⟩), .int .i64 n] W fun e w' => ∃ r : Int, 0 ≤ r ∧ r < n ∧ e = .returned (.int .i64 r) ∧ Tick w.heap.size W w' ∧ TP w w.heap.size a0 len0 cap0 w') := fun n W h1 h2 h3 => next_tp n w W _ _ _ _ h1 h2 h3
  have HTE : Hid (∀ W, TP w w.heap.size a0 len0 cap0 W → Calls Try.prog 28 #[.pointer (some ⟨w.heap.size, 0, none⟩)] W fun e w' => ∃ (b : Bool) (q : Nat), e = .returned (.bool b) ∧ w' = W.drewN q) := fun W h => end_tp w W _ _ _ _ h
  go_enter Try.func4, Try.ntmps4
  go_upto_region 2 with (fail)
  generalize w.alloc (.cells #[.slice a0 len0 cap0, .int .i64 0] 25) = w1 at *
  go_wp2_with fail
  refine (new3_v _).mono ?_
  rintro e w2 ⟨x, rfl, hpl, ha2, hb⟩
  go_upto_region 3 with (fail)
  have HX : Hid (x.pl = newD 3) := hpl
  have hlo : ∀ b, DBlk x b → w1.heap.size ≤ b := fun b hb => by
    rcases ha2.blk b hb with h | h
    · rcases h with ⟨q, h1, _⟩ | ⟨q, h1, _⟩ | ⟨y, hy, _⟩
      · cases h1
      · cases h1
      · cases hy
    · exact h
  have hsz := hb.size
  have hti := HT.out.hi
  have hb3 : Below w2.heap.size w2 (w2.alloc (Obj.cells #[.slice x.oa x.o.length x.oc, .slice x.ta x.t.length x.tc] 29)) := (Below.refl _ _).alloc (Nat.le_refl _) _
  have HT2 := Lib.hid ((HT.out.below hb HT.out.hi).below hb3 (by omega))
  have HB2 := Lib.hid (Bx.new w2 x)
  have HI2 := Lib.hid (ha2.di.below hb3)
  have hxl : ∀ b, DBlk x b → b < w2.heap.size := fun b hb => ha2.di.blk hb
  have hD : w.heap.size < w2.heap.size := by omega
  have hD2 : w2.heap.size < (w2.alloc (Obj.cells #[.slice x.oa x.o.length x.oc, .slice x.ta x.t.length x.tc] 29)).heap.size := by simp
  have HLX := Lib.hid (And.intro hlo hxl)
  have hw1 : w.heap.size < w1.heap.size := hti
  clear HT hpl hb3 hb hsz hti ha2 hlo hxl
  generalize w2.alloc (Obj.cells #[.slice x.oa x.o.length x.oc, .slice x.ta x.t.length x.tc] 29) = w3 at *
  generalize w2.heap.size = D at *
  obtain ⟨x0, x1, x2, x3, x4⟩ := HB2.out.cc
  go_upto_region 6 with (fail)
  generalize hQ : World.alloc w3 (Obj.cells _ 52) = w5 at *
  have HS : Hid (Ss w w.heap.size D w3.heap.size a0 len0 cap0 w5 x who0 none 0 []) := by
    have hb : Below w3.heap.size w3 w5 := by rw [← hQ]; exact (Below.refl _ _).alloc (Nat.le_refl _) _
    refine ⟨HT2.out.below hb HT2.out.hi, HB2.out.below hb HB2.out.at'.hi, ⟨HI2.out.below hb, fun b hb2 hm => ?_⟩, ?_, World.ownsRow_nil _ _ _ _, fun b hb2 q hq => (by cases hq), hD, hD2, rfl, (by decide)⟩
    · have h1 := HLX.out.1 b hb2
      have h2 := HLX.out.2 b hb2
      simp only [List.mem_cons, List.not_mem_nil, or_false] at hm
      omega
    · rw [← hQ]; exact At.new w3 (ints who0.flatten) 52
  have HH : Hid (Sh x.pl who0 [] (fun z => z)) := by rw [HX.out]; exact sh_new
  clear hQ HX HT2 HB2 HI2 HLX hD hw1 x0 x1 x2 x3 x4 hD2
  generalize w3.heap.size = Q at *
  go_wp2_with fail
  go_loopw [7, 8] (fun v7 v8 wr => ∃ (n : Nat) (x : Dv) (who : List (List Int)) (oa : Option Addr) (oc : Nat) (off : List Int) (m : Int → Int), v8 = .int .i64 n ∧ v7 = .slice oa off.length oc ∧ n ≤ 40 ∧ off.length ≤ n ∧ Hid (Ss w w.heap.size D Q a0 len0 cap0 wr x who oa oc off) ∧ Hid (Sh x.pl who off m)) (fun _ v8 _ => 40 - (intOf v8).toNat)
  case atStart => exact ⟨0, x, who0, none, 0, [], _, rfl, rfl, by omega, by simp, HS, HH⟩
  case round => as_aux_lemma =>
    clear HS HH
    obtain ⟨n, x, who, oa, oc, off, m, rfl, rfl, hn40, hol, HS, HH⟩ := hrel
    by_cases hn : n < 40
    · have hn' : (n : Int) < 40 := by omega
      go_wp2_with fail
      refine (HTE.out _ HS.out.tp).mono ?_
      rintro e w6 ⟨b, q, rfl, rfl⟩
      replace HS := Lib.hid (HS.out.below (below_drewN (Below.refl _ _) q))
      generalize World.drewN _ q = w6 at *
      cases b
      · skip
        go_wp2_with fail
        refine (HN.out 3 _ (by omega) (by omega) HS.out.tp).mono ?_
        rintro e w7 ⟨p, p0, p1, rfl, hk, tp⟩
        replace HS := Lib.hid (HS.out.tick hk tp)
        clear hk tp
        obtain ⟨p, rfl⟩ := Int.eq_ofNat_of_zero_le p0
        have hp : p < 3 := by omega
        go_wp2_with fail
        refine (HN.out 5 _ (by omega) (by omega) HS.out.tp).mono ?_
        rintro e w8 ⟨f, f0, f1, rfl, hk, tp⟩
        replace HS := Lib.hid (HS.out.tick hk tp)
        clear hk tp
        obtain ⟨f, rfl⟩ := Int.eq_ofNat_of_zero_le f0
        have hf : f < 5 := by omega
        have hf16 : f < 16 := by omega
        go_upto_block 2 with (fail)
        go_cut [11] (fun v11 wx => ∃ k : Nat, v11 = .int .i64 k ∧ Hid (leastAt who p k) ∧ Hid (Ss w w.heap.size D Q a0 len0 cap0 wx x who oa oc off))
        case first =>
          go_wp2_with fail
          go_loopw [11] (fun v11 wr => ∃ k : Nat, v11 = .int .i64 k ∧ k ≤ 16 ∧ Hid (∀ j, j < k → (who.getD p []).getD j 0 ≠ 0) ∧ Hid (Ss w w.heap.size D Q a0 len0 cap0 wr x who oa oc off)) (fun v11 _ => 16 - (intOf v11).toNat)
          case atStart => exact ⟨0, rfl, by omega, fun j hj => absurd hj (by omega), HS⟩
          case round =>
            clear HS
            obtain ⟨k, rfl, hk, HK, HS⟩ := hrel
            by_cases hk16 : k < 16
            · have hk16' : (k : Int) < 16 := by omega
              have hc := (HS.out.cell p k hp hk16).1
              by_cases hz : (who.getD p []).getD k 0 = 0
              · have HZ := Lib.hid hz
                rw [hz] at hc
                clear hz
                go_wp2_with fail
                go_meet
                exact ⟨k, rfl, ⟨hk, HK.out, Or.inr HZ.out⟩, HS⟩
              · have HZ := Lib.hid hz
                have hzb : ((who.getD p []).getD k 0 == 0) = false := by simpa using hz
                clear hz
                generalize hzz : (who.getD p []).getD k 0 = z at hc hzb
                clear hzz
                go_wp2_with fail
                go_roundw
                case rel =>
                  refine ⟨k + 1, by go_num, by omega, fun j hj => ?_, HS⟩
                  by_cases e : j = k
                  · subst e; exact HZ.out
                  · exact HK.out j (by omega)
                case measure => simp [intOf]; omega
            · obtain rfl : k = 16 := by omega
              go_wp2_with fail
              go_meet
              exact ⟨16, rfl, ⟨Nat.le_refl _, HK.out, Or.inl rfl⟩, HS⟩
        case rest =>
          clear HS
          obtain ⟨k, rfl, HL, HS⟩ := hcut
          go_wp2_with fail
          refine (HN.out 6 _ (by omega) (by omega) HS.out.tp).mono ?_
          rintro e w9 ⟨kd, kd0, kd1, rfl, hk, tp⟩
          replace HS := Lib.hid (HS.out.tick hk tp)
          clear hk tp
          go_upto_block 4 with (fail)
          go_cut [7] (fun v7 wx => ∃ (y : Dv) (who' : List (List Int)) (oa' : Option Addr) (oc' : Nat) (off' : List Int) (m' : Int → Int), v7 = .slice oa' off'.length oc' ∧ off'.length ≤ n + 1 ∧ Hid (Ss w w.heap.size D Q a0 len0 cap0 wx y who' oa' oc' off') ∧ Hid (Sh y.pl who' off' m'))
          case first => as_aux_lemma =>
            have hkd : kd = 0 ∨ kd = 1 ∨ kd = 2 ∨ kd = 3 ∨ kd = 4 ∨ kd = 5 := by omega
            clear kd0 kd1
            rcases hkd with rfl | rfl | rfl | rfl | rfl | rfl
            · as_aux_lemma =>
              go_upto_region 17 with (fail)
              go_cut [12, 13, 14] (fun s12 s13 s14 wx => ∃ (N : Nat) (y : Dv) (fi : Int), 0 ≤ fi ∧ fi < 3 ∧ s12 = .pointer (some ⟨N, 0, none⟩) ∧ s13 = .int .i64 (openF x.pl p fi 1 0) ∧ s14 = .int .i64 (openE x.pl p fi 1 0) ∧ Hid (y.pl = openD x.pl p fi 1 0) ∧ Hid (Ss w w.heap.size D Q a0 len0 cap0 wx x who oa oc off) ∧ Hid (Sz w.heap.size D Q N oa wx x y))
              case first => as_aux_lemma =>
                have HSX : Hid (DSz x) := (check_sz (rt_check HH.out.rt)).sz rfl
                have htl : w.heap.size < w9.heap.size := HS.out.tp.hi
                replace HS := Lib.hid (HS.out.below (Below.refl _ _).drew)
                obtain ⟨x0, x1, x2, x3, x4⟩ := HS.out.box.cc
                have x5 : D < w9.heap.size := x4
                have y0 : w9.cell? ⟨D, 0, none⟩ = some (.slice x.oa x.o.length x.oc) := x0
                have y1 : w9.cell? ⟨D, 1, none⟩ = some (.slice x.ta x.t.length x.tc) := x1
                go_region_held3 (fun w' => w'.cell? ⟨D, 0, none⟩ = some (.slice x.oa x.o.length x.oc) ∧ w'.cell? ⟨D, 1, none⟩ = some (.slice x.ta x.t.length x.tc)) (go_keep) (first | (go_at_call 8; refine (HN.out _ _ (by omega) (by omega) (by first | exact HS.out.tp | exact (HS.out.alloc _).tp)).mono ?_; rintro e wn ⟨fi, hfi0, hfi1, rfl, htk, htp⟩; (first | (replace HS := Lib.hid (HS.out.tick htk htp); try (replace NA := Lib.hid (NA.out.tick (by omega) htk))) | (have NA := Lib.hid ((Sz.newN HS.out).tick (by exact HS.out.tp.hi) htk); (try rw [show w9.drew.heap.size = w9.heap.size from rfl] at NA); replace HS := Lib.hid ((HS.out.alloc _).tick htk htp))); clear htk htp; obtain ⟨x0, x1, x2, x3, x4⟩ := HS.out.box.cc) | (go_at_call 10; refine (open_v x _ _ _ _ _ (by first | exact HS.out.vi.di | exact (HS.out.alloc _).vi.di) HSX.out).mono ?_; rintro e wo ⟨y, rfl, hpl, ha, hb⟩; (first | (have HBE := Lib.hid (And.intro hb ha); have HSO := HS; have NAO := NA; replace NA := Lib.hid (NA.out.below hb); replace HS := Lib.hid (HS.out.below hb); obtain ⟨a0', a1', a2', a3', a4'⟩ := NA.out.box.cc; have nDA := Nat.ne_of_lt (Nat.lt_trans HS.out.DQ NA.out.lo); have nAD := nDA.symm) | (have HBE := Lib.hid (And.intro hb ha); have HSO := HS; replace HS := Lib.hid (HS.out.below hb)) | (have HBE := Lib.hid (And.intro hb ha); have NAO := Lib.hid (Sz.newN HS.out); have HSO := Lib.hid (HS.out.alloc (.cells #[.slice none 0 0, .slice none 0 0] 29)); have NA := Lib.hid (NAO.out.below hb); replace HS := Lib.hid (HSO.out.below hb); obtain ⟨a0', a1', a2', a3', a4'⟩ := NA.out.box.cc; have nDA := Nat.ne_of_lt (Nat.lt_trans HS.out.DQ NA.out.lo); have nAD := nDA.symm)); have HPLY := Lib.hid hpl; clear ha hb hpl; obtain ⟨x0, x1, x2, x3, x4⟩ := HS.out.box.cc))
                all_goals
                  go_wp2_with fail
                  go_meet
                  first
                  | exact ⟨_, y, _, hfi0, hfi1, rfl, rfl, rfl, HPLY, (NAO.out.put HSO.out HBE.out.1 HBE.out.2).2, (NAO.out.put HSO.out HBE.out.1 HBE.out.2).1⟩
                  | exact ⟨_, y, _, hfi0, hfi1, rfl, rfl, rfl, HPLY, HS.out.alloc _, Sz.new HS.out (HSO.out.ans HBE.out.2).1 (HSO.out.ans HBE.out.2).2⟩
              case rest => as_aux_lemma =>
                clear HS
                obtain ⟨N, y, fi, hfi0, hfi1, rfl, rfl, rfl, HY, HS, HZ⟩ := hcut
                obtain ⟨e1, e2⟩ := sh_openE HH.out hp HL.out hfi0 hfi1
                by_cases hlt : k < 16
                · obtain ⟨e3, e4⟩ := e1 hlt
                  rw [e3, e4]
                  have hlt' : (k : Int) < 16 := by omega
                  obtain ⟨m', hm'⟩ := sh_open HH.out e3 e4
                  have HH2 : Hid (Sh y.pl (setE who p k ((off.length : Int) + 1)) (off ++ [0]) m') := by rw [HY.out]; exact hm'
                  clear e1 e2 e3 e4 hm' HH HY
                  obtain ⟨x0, x1, x2, x3, x4⟩ := HZ.out.box.cc
                  obtain ⟨y0, y1, y2, y3, y4⟩ := HS.out.box.cc
                  have HS2 := Lib.hid (HS.out.store HZ.out)
                  go_upto_region 22 with (fail)
                  clear HS HZ x0 x1 x2 x3 x4 y0 y1 y2 y3 y4
                  generalize ((World.setCell _ ⟨D, 0, none⟩ (.slice y.oa y.o.length y.oc)).setCell ⟨D, 1, none⟩ (.slice y.ta y.t.length y.tc)) = wa at *
                  obtain ⟨W4, hW4⟩ : ∃ W4, W4 = wa.alloc (Obj.cells #[.int .i64 0] 3) := ⟨_, rfl⟩
                  have hb4 : Below wa.heap.size wa W4 := by rw [hW4]; exact (Below.refl _ _).alloc (Nat.le_refl _) _
                  have hS4 := HS2.out.below hb4
                  have hv4 : W4.cell? ⟨wa.heap.size, 0, none⟩ = some (.int .i64 0) := by rw [hW4]; simp
                  obtain ⟨oa', oc', wN, hrun, hown, hgr, hloc⟩ := append_int W4 (Q + 1) oa oc off 0 wa.heap.size hS4.own hv4 (by omega) (by have := hS4.wh.hi; omega)
                  have HAP := Lib.hid hrun
                  have HSN := Lib.hid (hS4.app hown hgr hloc)
                  obtain ⟨c1, c2⟩ := HSN.out.cell p k hp hlt
                  have hol2 : (off.length : Int) ≤ 40 := by omega
                  clear hrun hown hgr hloc hb4 hS4 hv4 HS2
                  go_upto_region 23 with (at_builtin; rw [← hW4]; clear hW4; refine Lib.wpList_append_run _ rfl _ _ _ _ rfl _ _ rfl rfl _ _ HAP.out ?_)
                  clear HAP
                  go_wp2_with fail
                  go_meet
                  exact ⟨y, setE who p k ((off.length : Int) + 1), oa', oc', off ++ [0], m', by simp, by simp; omega, HSN.out.put1 p k hp hlt _, HH2⟩
                · rw [e2 hlt]
                  have hlt' : ¬ (k : Int) < 16 := by omega
                  clear e1 e2 HY HZ
                  go_wp2_with fail
                  go_meet
                  exact ⟨x, who, oa, oc, off, m, rfl, by omega, HS, HH⟩
            · as_aux_lemma =>
              go_upto_region 17 with (fail)
              go_cut [12, 13, 14] (fun s12 s13 s14 wx => ∃ (N : Nat) (y : Dv) (fi : Int), 0 ≤ fi ∧ fi < 3 ∧ s12 = .pointer (some ⟨N, 0, none⟩) ∧ s13 = .int .i64 (openF x.pl p fi 1 0) ∧ s14 = .int .i64 (openE x.pl p fi 1 0) ∧ Hid (y.pl = openD x.pl p fi 1 0) ∧ Hid (Ss w w.heap.size D Q a0 len0 cap0 wx x who oa oc off) ∧ Hid (Sz w.heap.size D Q N oa wx x y))
              case first => as_aux_lemma =>
                have HSX : Hid (DSz x) := (check_sz (rt_check HH.out.rt)).sz rfl
                have htl : w.heap.size < w9.heap.size := HS.out.tp.hi
                replace HS := Lib.hid (HS.out.below (Below.refl _ _).drew)
                obtain ⟨x0, x1, x2, x3, x4⟩ := HS.out.box.cc
                have x5 : D < w9.heap.size := x4
                have y0 : w9.cell? ⟨D, 0, none⟩ = some (.slice x.oa x.o.length x.oc) := x0
                have y1 : w9.cell? ⟨D, 1, none⟩ = some (.slice x.ta x.t.length x.tc) := x1
                go_region_held3 (fun w' => w'.cell? ⟨D, 0, none⟩ = some (.slice x.oa x.o.length x.oc) ∧ w'.cell? ⟨D, 1, none⟩ = some (.slice x.ta x.t.length x.tc)) (go_keep) (first | (go_at_call 8; refine (HN.out _ _ (by omega) (by omega) (by first | exact HS.out.tp | exact (HS.out.alloc _).tp)).mono ?_; rintro e wn ⟨fi, hfi0, hfi1, rfl, htk, htp⟩; (first | (replace HS := Lib.hid (HS.out.tick htk htp); try (replace NA := Lib.hid (NA.out.tick (by omega) htk))) | (have NA := Lib.hid ((Sz.newN HS.out).tick (by exact HS.out.tp.hi) htk); (try rw [show w9.drew.heap.size = w9.heap.size from rfl] at NA); replace HS := Lib.hid ((HS.out.alloc _).tick htk htp))); clear htk htp; obtain ⟨x0, x1, x2, x3, x4⟩ := HS.out.box.cc) | (go_at_call 10; refine (open_v x _ _ _ _ _ (by first | exact HS.out.vi.di | exact (HS.out.alloc _).vi.di) HSX.out).mono ?_; rintro e wo ⟨y, rfl, hpl, ha, hb⟩; (first | (have HBE := Lib.hid (And.intro hb ha); have HSO := HS; have NAO := NA; replace NA := Lib.hid (NA.out.below hb); replace HS := Lib.hid (HS.out.below hb); obtain ⟨a0', a1', a2', a3', a4'⟩ := NA.out.box.cc; have nDA := Nat.ne_of_lt (Nat.lt_trans HS.out.DQ NA.out.lo); have nAD := nDA.symm) | (have HBE := Lib.hid (And.intro hb ha); have HSO := HS; replace HS := Lib.hid (HS.out.below hb)) | (have HBE := Lib.hid (And.intro hb ha); have NAO := Lib.hid (Sz.newN HS.out); have HSO := Lib.hid (HS.out.alloc (.cells #[.slice none 0 0, .slice none 0 0] 29)); have NA := Lib.hid (NAO.out.below hb); replace HS := Lib.hid (HSO.out.below hb); obtain ⟨a0', a1', a2', a3', a4'⟩ := NA.out.box.cc; have nDA := Nat.ne_of_lt (Nat.lt_trans HS.out.DQ NA.out.lo); have nAD := nDA.symm)); have HPLY := Lib.hid hpl; clear ha hb hpl; obtain ⟨x0, x1, x2, x3, x4⟩ := HS.out.box.cc))
                all_goals
                  go_wp2_with fail
                  go_meet
                  first
                  | exact ⟨_, y, _, hfi0, hfi1, rfl, rfl, rfl, HPLY, (NAO.out.put HSO.out HBE.out.1 HBE.out.2).2, (NAO.out.put HSO.out HBE.out.1 HBE.out.2).1⟩
                  | exact ⟨_, y, _, hfi0, hfi1, rfl, rfl, rfl, HPLY, HS.out.alloc _, Sz.new HS.out (HSO.out.ans HBE.out.2).1 (HSO.out.ans HBE.out.2).2⟩
              case rest => as_aux_lemma =>
                clear HS
                obtain ⟨N, y, fi, hfi0, hfi1, rfl, rfl, rfl, HY, HS, HZ⟩ := hcut
                obtain ⟨e1, e2⟩ := sh_openE HH.out hp HL.out hfi0 hfi1
                by_cases hlt : k < 16
                · obtain ⟨e3, e4⟩ := e1 hlt
                  rw [e3, e4]
                  have hlt' : (k : Int) < 16 := by omega
                  obtain ⟨m', hm'⟩ := sh_open HH.out e3 e4
                  have HH2 : Hid (Sh y.pl (setE who p k ((off.length : Int) + 1)) (off ++ [0]) m') := by rw [HY.out]; exact hm'
                  clear e1 e2 e3 e4 hm' HH HY
                  obtain ⟨x0, x1, x2, x3, x4⟩ := HZ.out.box.cc
                  obtain ⟨y0, y1, y2, y3, y4⟩ := HS.out.box.cc
                  have HS2 := Lib.hid (HS.out.store HZ.out)
                  go_upto_region 22 with (fail)
                  clear HS HZ x0 x1 x2 x3 x4 y0 y1 y2 y3 y4
                  generalize ((World.setCell _ ⟨D, 0, none⟩ (.slice y.oa y.o.length y.oc)).setCell ⟨D, 1, none⟩ (.slice y.ta y.t.length y.tc)) = wa at *
                  obtain ⟨W4, hW4⟩ : ∃ W4, W4 = wa.alloc (Obj.cells #[.int .i64 0] 3) := ⟨_, rfl⟩
                  have hb4 : Below wa.heap.size wa W4 := by rw [hW4]; exact (Below.refl _ _).alloc (Nat.le_refl _) _
                  have hS4 := HS2.out.below hb4
                  have hv4 : W4.cell? ⟨wa.heap.size, 0, none⟩ = some (.int .i64 0) := by rw [hW4]; simp
                  obtain ⟨oa', oc', wN, hrun, hown, hgr, hloc⟩ := append_int W4 (Q + 1) oa oc off 0 wa.heap.size hS4.own hv4 (by omega) (by have := hS4.wh.hi; omega)
                  have HAP := Lib.hid hrun
                  have HSN := Lib.hid (hS4.app hown hgr hloc)
                  obtain ⟨c1, c2⟩ := HSN.out.cell p k hp hlt
                  have hol2 : (off.length : Int) ≤ 40 := by omega
                  clear hrun hown hgr hloc hb4 hS4 hv4 HS2
                  go_upto_region 23 with (at_builtin; rw [← hW4]; clear hW4; refine Lib.wpList_append_run _ rfl _ _ _ _ rfl _ _ rfl rfl _ _ HAP.out ?_)
                  clear HAP
                  go_wp2_with fail
                  go_meet
                  exact ⟨y, setE who p k ((off.length : Int) + 1), oa', oc', off ++ [0], m', by simp, by simp; omega, HSN.out.put1 p k hp hlt _, HH2⟩
                · rw [e2 hlt]
                  have hlt' : ¬ (k : Int) < 16 := by omega
                  clear e1 e2 HY HZ
                  go_wp2_with fail
                  go_meet
                  exact ⟨x, who, oa, oc, off, m, rfl, by omega, HS, HH⟩
            · as_aux_lemma =>
              skip
              have HSX : Hid (DSz x) := (check_sz (rt_check HH.out.rt)).sz rfl
              obtain ⟨x0, x1, x2, x3, x4⟩ := HS.out.box.cc
              go_wp2_with fail
              refine (dup_v x _ _ _ HS.out.vi.di HSX.out).mono ?_
              rintro e wz ⟨y, rfl, hpl, ha, hb⟩
              clear x0 x1 x2 x3 x4
              clear HSX
              have HY := Lib.hid hpl
              clear hpl
              have HZ2 := Lib.hid (Sz.new (HS.out.below hb) (HS.out.ans ha).1 (HS.out.ans ha).2)
              have HS2 := Lib.hid ((HS.out.below hb).alloc (.cells #[.slice y.oa y.o.length y.oc, .slice y.ta y.t.length y.tc] 29))
              replace HS := Lib.hid (HS.out.below hb)
              clear ha hb
              go_upto_region 26 with (fail)
              replace HS := HS2
              have HZ := HZ2
              clear HS2 HZ2
              generalize wz.alloc (Obj.cells #[.slice y.oa y.o.length y.oc, .slice y.ta y.t.length y.tc] 29) = wa at *
              generalize wz.heap.size = N at *
              obtain ⟨e1, e2⟩ := sh_dupE HH.out hp hf16 HL.out
              have hc := (HS.out.cell p f hp hf16).1
              by_cases hz : (who.getD p []).getD f 0 = 0
              · have hE : (dupE x.pl p f == 0) = false := by simpa using e2 (fun h => h.1 hz)
                rw [hz] at hc
                clear hz e1 e2
                generalize dupE x.pl p f = E at *
                generalize dupF x.pl p f = G at *
                clear HY HZ
                go_wp2_with fail
                go_meet
                exact ⟨x, who, oa, oc, off, m, rfl, by omega, HS, HH⟩
              · by_cases hlt : k < 16
                · obtain ⟨e3, e4⟩ := e1 hz hlt
                  rw [e3, e4]
                  have hlt' : (k : Int) < 16 := by omega
                  have HH2 : Hid (Sh y.pl (setE who p k ((who.getD p []).getD f 0)) off m) := by rw [HY.out]; exact sh_dup HH.out e3 e4
                  have hzb : ((who.getD p []).getD f 0 == 0) = false := by simpa using hz
                  have hzn := hz
                  have hzc : ((who.getD p []).getD f 0 != 0) = true := by simpa using hz
                  clear e1 e2 e3 e4 hz HY
                  generalize hzz : (who.getD p []).getD f 0 = z at hc hzb hzn hzc HH2
                  have HZZ := Lib.hid hzz
                  clear hzz
                  obtain ⟨x0, x1, x2, x3, x4⟩ := HZ.out.box.cc
                  obtain ⟨y0, y1, y2, y3, y4⟩ := HS.out.box.cc
                  have HS2 := Lib.hid (HS.out.store HZ.out)
                  go_upto_region 30 with (fail)
                  clear HS HZ x0 x1 x2 x3 x4 y0 y1 y2 y3 y4
                  have HS := HS2
                  clear HS2
                  generalize ((World.setCell _ ⟨D, 0, none⟩ (.slice y.oa y.o.length y.oc)).setCell ⟨D, 1, none⟩ (.slice y.ta y.t.length y.tc)) = wb at *
                  clear hc hzb hzn hzc
                  obtain ⟨c1, c2⟩ := HS.out.cell p k hp hlt
                  have hc := (HS.out.cell p f hp hf16).1
                  rw [HZZ.out] at hc
                  generalize hkk : (who.getD p []).getD k 0 = zk at c1
                  clear hkk
                  go_wp2_with fail
                  go_region
                  go_wp2_with fail
                  go_meet
                  exact ⟨y, setE who p k z, oa, oc, off, m, rfl, by omega, (HS.out.put1 p k hp hlt _).below (Below.refl _ _).drew, HH2⟩
                · have hE : (dupE x.pl p f == 0) = false := by simpa using e2 (fun h => hlt h.2)
                  have hlt' : ¬ (k : Int) < 16 := by omega
                  have hzb : ((who.getD p []).getD f 0 == 0) = false := by simpa using hz
                  have hzn := hz
                  have hzc : ((who.getD p []).getD f 0 != 0) = true := by simpa using hz
                  clear hz e1 e2
                  generalize hzz : (who.getD p []).getD f 0 = z at hc hzb hzn hzc
                  clear hzz
                  generalize dupE x.pl p f = E at *
                  generalize dupF x.pl p f = G at *
                  clear HY HZ
                  go_wp2_with fail
                  go_meet
                  exact ⟨x, who, oa, oc, off, m, rfl, by omega, HS, HH⟩
            · as_aux_lemma =>
              skip
              have HSX : Hid (DSz x) := (check_sz (rt_check HH.out.rt)).sz rfl
              obtain ⟨x0, x1, x2, x3, x4⟩ := HS.out.box.cc
              go_wp2_with fail
              refine (close_v x _ _ _ HS.out.vi.di HSX.out).mono ?_
              rintro e wz ⟨y, rfl, hpl, ha, hb⟩
              clear x0 x1 x2 x3 x4
              clear HSX
              have HY := Lib.hid hpl
              clear hpl
              have HZ2 := Lib.hid (Sz.new (HS.out.below hb) (HS.out.ans ha).1 (HS.out.ans ha).2)
              have HS2 := Lib.hid ((HS.out.below hb).alloc (.cells #[.slice y.oa y.o.length y.oc, .slice y.ta y.t.length y.tc] 29))
              replace HS := Lib.hid (HS.out.below hb)
              clear ha hb
              go_upto_region 33 with (fail)
              replace HS := HS2
              have HZ := HZ2
              clear HS2 HZ2
              generalize wz.alloc (Obj.cells #[.slice y.oa y.o.length y.oc, .slice y.ta y.t.length y.tc] 29) = wa at *
              generalize wz.heap.size = N at *
              have e1 := (HH.out.look p f hp hf16).1
              have hc := (HS.out.cell p f hp hf16).1
              by_cases hz : (who.getD p []).getD f 0 = 0
              · have hE : (numE x.pl p f == 0) = false := by simpa using fun h => e1.1 h hz
                rw [hz] at hc
                clear hz e1
                generalize numE x.pl p f = E at *
                generalize closeG x.pl p f = G at *
                clear HY HZ
                go_wp2_with fail
                go_meet
                exact ⟨x, who, oa, oc, off, m, rfl, by omega, HS, HH⟩
              · have e3 := e1.2 hz
                have hG := sh_left HH.out HS.out.w16 hp hf16 e3
                rw [e3, hG]
                have HH2 : Hid (Sh y.pl (setE who p f 0) off m) := by rw [HY.out]; exact (sh_close HH.out e3).1
                have hzb : ((who.getD p []).getD f 0 == 0) = false := by simpa using hz
                have hzn := hz
                have hzc : ((who.getD p []).getD f 0 != 0) = true := by simpa using hz
                clear e1 e3 hz HY hG
                obtain ⟨lb, hlb⟩ : ∃ lb, lb = hasB (setE who p f 0).flatten ((who.getD p []).getD f 0) 48 := ⟨_, rfl⟩
                rw [← hlb]
                have HLB := Lib.hid hlb
                clear hlb
                generalize hzz : (who.getD p []).getD f 0 = z at hc hzb hzn hzc HLB
                have HZZ := Lib.hid hzz
                clear hzz
                obtain ⟨x0, x1, x2, x3, x4⟩ := HZ.out.box.cc
                obtain ⟨y0, y1, y2, y3, y4⟩ := HS.out.box.cc
                have HS2 := Lib.hid (HS.out.store HZ.out)
                go_upto_region 37 with (fail)
                clear HS HZ x0 x1 x2 x3 x4 y0 y1 y2 y3 y4
                have HS := HS2
                clear HS2
                generalize ((World.setCell _ ⟨D, 0, none⟩ (.slice y.oa y.o.length y.oc)).setCell ⟨D, 1, none⟩ (.slice y.ta y.t.length y.tc)) = wb at *
                clear hc
                obtain ⟨hc, hcf⟩ := HS.out.cell p f hp hf16
                rw [HZZ.out] at hc
                go_upto_region 39 with (fail)
                replace HS := Lib.hid (HS.out.put1 p f hp hf16 0)
                clear hc hcf hzb hzn hzc HZZ HH
                generalize World.setCell _ ⟨Q, p * 16 + f, none⟩ (.int .i64 0) = wc at *
                generalize setE who p f 0 = who' at *
                go_wp2_with fail
                go_loopw [22, 23] (fun v22 v23 wr => ∃ i : Nat, v23 = .int .i64 i ∧ i ≤ 3 ∧ v22 = .bool (hasB who'.flatten z (i * 16)) ∧ Hid (Ss w w.heap.size D Q a0 len0 cap0 wr y who' oa oc off)) (fun _ v23 _ => 3 - (intOf v23).toNat)
                case atStart => exact ⟨0, rfl, by omega, by rw [Nat.zero_mul, hasB_zero], HS⟩
                case round =>
                  clear HS
                  obtain ⟨i, rfl, hi3, rfl, HS⟩ := hrel
                  by_cases hi : i < 3
                  · have hi' : (i : Int) < 3 := by omega
                    go_wp2_with fail
                    go_loopw [22, 24] (fun v22 v24 wr => ∃ j : Nat, v24 = .int .i64 j ∧ j ≤ 16 ∧ v22 = .bool (hasB who'.flatten z (i * 16 + j)) ∧ Hid (Ss w w.heap.size D Q a0 len0 cap0 wr y who' oa oc off)) (fun _ v24 _ => 16 - (intOf v24).toNat)
                    case atStart => exact ⟨0, rfl, by omega, by rw [Nat.add_zero], HS⟩
                    case round =>
                      clear HS
                      obtain ⟨j, rfl, hj16, rfl, HS⟩ := hrel
                      by_cases hj : j < 16
                      · have hj' : (j : Int) < 16 := by omega
                        have hcj := (HS.out.cell i j hi hj).1
                        have hsu := hasB_succ who'.flatten z (i * 16 + j) (by rw [HS.out.wl48]; omega)
                        rw [flat_at _ _ _ HS.out.w16 hj] at hsu
                        generalize hzz : (who'.getD i []).getD j 0 = zj at hcj hsu
                        clear hzz
                        have HSU := Lib.hid hsu
                        clear hsu
                        generalize hasB who'.flatten z (i * 16 + j) = hb at *
                        cases hb
                        · go_wp2_with fail
                          go_roundw
                          case rel => exact ⟨j + 1, by go_num, by omega, by rw [← Nat.add_assoc, HSU.out, Bool.false_or], HS⟩
                          case measure => simp [intOf]; omega
                        · go_wp2_with fail
                          go_roundw
                          case rel => exact ⟨j + 1, by go_num, by omega, by rw [← Nat.add_assoc, HSU.out, Bool.true_or], HS⟩
                          case measure => simp [intOf]; omega
                      · obtain rfl : j = 16 := by omega
                        go_wp2_with fail
                        go_roundw
                        case rel => exact ⟨i + 1, by go_num, by omega, by rw [Nat.succ_mul], HS⟩
                        case measure => simp [intOf]; omega
                  · obtain rfl : i = 3 := by omega
                    rw [show 3 * 16 = 48 from rfl, ← HLB.out]
                    clear HLB
                    cases lb
                    · go_wp2_with fail
                      go_meet
                      exact ⟨y, who', oa, oc, off, m, rfl, by omega, HS, HH2⟩
                    · go_wp2_with fail
                      go_meet
                      exact ⟨y, who', oa, oc, off, m, rfl, by omega, HS, HH2⟩
            · as_aux_lemma =>
              skip
              go_wp2_with fail
              refine (HN.out 3 _ (by omega) (by omega) HS.out.tp).mono ?_
              rintro e wq ⟨q, q0, q1, rfl, hk, tp⟩
              replace HS := Lib.hid (HS.out.tick hk tp)
              clear hk tp
              obtain ⟨q, rfl⟩ := Int.eq_ofNat_of_zero_le q0
              have hq : q < 3 := by omega
              have hql : (who.getD q []).length = 16 := HS.out.w16 _ (by rw [getD_get (by rw [HS.out.wl]; exact hq)]; exact List.getElem_mem _)
              have HQL := Lib.hid hql
              clear hql
              go_wp2_with fail
              go_loopw [26, 27] (fun v26 v27 wr => ∃ j : Nat, v27 = .int .i64 j ∧ j ≤ 16 ∧ v26 = .bool (freeB (who.getD q []) j) ∧ Hid (Ss w w.heap.size D Q a0 len0 cap0 wr x who oa oc off)) (fun _ v27 _ => 16 - (intOf v27).toNat)
              case atStart => exact ⟨0, rfl, by omega, by rw [freeB_zero], HS⟩
              case round =>
                clear HS
                obtain ⟨j, rfl, hj16, rfl, HS⟩ := hrel
                by_cases hj : j < 16
                · have hj' : (j : Int) < 16 := by omega
                  have hcj := (HS.out.cell q j hq hj).1
                  have hsu := freeB_succ (who.getD q []) j (by rw [HQL.out]; exact hj)
                  generalize hzz : (who.getD q []).getD j 0 = zj at hcj hsu
                  clear hzz
                  have HSU := Lib.hid hsu
                  clear hsu
                  generalize freeB (who.getD q []) j = hb at *
                  cases hb
                  · go_wp2_with fail
                    go_roundw
                    case rel => exact ⟨j + 1, by go_num, by omega, by rw [HSU.out, Bool.false_and], HS⟩
                    case measure => simp [intOf]; omega
                  · go_wp2_with fail
                    go_roundw
                    case rel => exact ⟨j + 1, by go_num, by omega, by rw [HSU.out, Bool.true_and], HS⟩
                    case measure => simp [intOf]; omega
                · obtain rfl : j = 16 := by omega
                  have hE := sh_forkE HH.out hp hq
                  rw [← freeB_true _ HQL.out] at hE
                  have HE := Lib.hid hE
                  clear hE
                  generalize freeB (who.getD q []) 16 = fr at *
                  have HSX : Hid (DSz x) := (check_sz (rt_check HH.out.rt)).sz rfl
                  obtain ⟨x0, x1, x2, x3, x4⟩ := HS.out.box.cc
                  go_wp2_with fail
                  refine (fork_v x _ _ _ HS.out.vi.di HSX.out).mono ?_
                  rintro e wz ⟨y, rfl, hpl, ha, hb⟩
                  clear x0 x1 x2 x3 x4
                  clear HSX
                  have HY := Lib.hid hpl
                  clear hpl
                  have HZ2 := Lib.hid (Sz.new (HS.out.below hb) (HS.out.ans ha).1 (HS.out.ans ha).2)
                  have HS2 := Lib.hid ((HS.out.below hb).alloc (.cells #[.slice y.oa y.o.length y.oc, .slice y.ta y.t.length y.tc] 29))
                  replace HS := Lib.hid (HS.out.below hb)
                  clear ha hb
                  go_upto_region 57 with (fail)
                  replace HS := HS2
                  have HZ := HZ2
                  clear HS2 HZ2
                  generalize wz.alloc (Obj.cells #[.slice y.oa y.o.length y.oc, .slice y.ta y.t.length y.tc] 29) = wa at *
                  generalize wz.heap.size = N at *
                  by_cases hpq : p = q
                  · have hE : (forkE x.pl p q == 0) = false := by simpa using fun h => (HE.out.1 h).1 hpq
                    subst hpq
                    generalize forkE x.pl p p = E at *
                    clear HY HZ
                    go_wp2_with fail
                    go_meet
                    exact ⟨x, who, oa, oc, off, m, rfl, by omega, HS, HH⟩
                  · have hpq' : ((p : Int) == (q : Int)) = false := by simp; omega
                    have hpq2 : ((p : Int) != (q : Int)) = true := by simp; omega
                    have hpq3 : ¬ (p : Int) = (q : Int) := by omega
                    cases fr
                    · have hE : (forkE x.pl p q == 0) = false := by simpa using fun h => (HE.out.1 h).2
                      generalize forkE x.pl p q = E at *
                      clear HY HZ
                      go_wp2_with fail
                      go_meet
                      exact ⟨x, who, oa, oc, off, m, rfl, by omega, HS, HH⟩
                    · have e3 := HE.out.2 ⟨hpq, rfl⟩
                      rw [e3]
                      have HH2 : Hid (Sh y.pl (who.set q (who.getD p [])) off m) := by rw [HY.out]; exact sh_fork HH.out e3
                      clear HE e3 HY
                      obtain ⟨x0, x1, x2, x3, x4⟩ := HZ.out.box.cc
                      obtain ⟨y0, y1, y2, y3, y4⟩ := HS.out.box.cc
                      have HS2 := Lib.hid (HS.out.store HZ.out)
                      go_upto_region 61 with (fail)
                      clear HS HZ x0 x1 x2 x3 x4 y0 y1 y2 y3 y4
                      have HS := HS2
                      clear HS2
                      generalize ((World.setCell _ ⟨D, 0, none⟩ (.slice y.oa y.o.length y.oc)).setCell ⟨D, 1, none⟩ (.slice y.ta y.t.length y.tc)) = wb at *
                      have hrp : wb.rangeAt Q (p * 16) (ints (who.getD p [])) := by
                        intro j v hj
                        have hj16 : j < 16 := by have := (List.getElem?_eq_some_iff.1 hj).1; rw [ints_len] at this; have h2 : (who.getD p []).length = 16 := HS.out.w16 _ (by rw [getD_get (by rw [HS.out.wl]; exact hp)]; exact List.getElem_mem _); omega
                        have h17 : (who.getD p []).length = 16 := HS.out.w16 _ (by rw [getD_get (by rw [HS.out.wl]; exact hp)]; exact List.getElem_mem _)
                        have hj2 := ints_at (who.getD p []) j (by omega)
                        rw [hj] at hj2
                        exact (HS.out.cell p j hp hj16).1.trans hj2.symm
                      have hpl16 : (who.getD p []).length = 16 := HS.out.w16 _ (by rw [getD_get (by rw [HS.out.wl]; exact hp)]; exact List.getElem_mem _)
                      have hth : wb.there Q (q * 16) 16 := by
                        intro j hj
                        obtain ⟨c1, c2⟩ := HS.out.cell q j hq hj
                        exact ⟨by rw [c1]; rfl, c2⟩
                      have HSF := Lib.hid (HS.out.put16 p q hp hq)
                      have HRP := Lib.hid hrp
                      have HTH := Lib.hid hth
                      have HPL := Lib.hid hpl16
                      clear hrp hth hpl16
                      go_wp2_with (with_reducible refine hold_load 51 rfl ?_)
                      refine load_ato (p * 16) HRP.out Try.underlying51 rfl (by rw [ints_len, HPL.out]; exact size51) rfl rfl rfl ?_
                      go_wp2_with (with_reducible refine hold_store 51 rfl ?_)
                      refine store_ato (q * 16) (ints (who.getD p [])) HTH.out (by rw [ints_len]; exact HPL.out) size51 (by simp [ints, Value.oneCell']) rfl rfl rfl rfl ?_
                      rintro w5 rfl
                      go_wp2_with fail
                      go_meet
                      exact ⟨y, who.set q (who.getD p []), oa, oc, off, m, rfl, by omega, HSF, HH2⟩
            · as_aux_lemma =>
              skip
              obtain ⟨nv, q, b, hm⟩ : ∃ (nv q : Int) (b : Dn), nv = numV x.pl p f ∧ q = numE x.pl p f ∧ b = lookV x.pl p f := ⟨_, _, _, rfl, rfl, rfl⟩
              have HM := Lib.hid hm
              clear hm
              obtain ⟨x0, x1, x2, x3, x4⟩ := HS.out.box.cc
              go_wp2_with fail
              refine (look_s x p f nv q b _ HS.out.vi.di HH.out.rt HM.out).mono ?_
              rintro e wz ⟨rfl, hb⟩
              clear x0 x1 x2 x3 x4
              replace HS := Lib.hid (HS.out.below hb)
              clear hb
              go_upto_region 64 with (fail)
              have HV := Lib.hid (Sy.new HS.out [.int .i64 b.fi, .int .i64 b.fl, .int .i64 b.f, .int .i64 b.cu, .int .i64 b.rf] 34)
              replace HS := Lib.hid (HS.out.alloc (.cells #[.int .i64 b.fi, .int .i64 b.fl, .int .i64 b.f, .int .i64 b.cu, .int .i64 b.rf] 34))
              generalize wz.alloc (Obj.cells #[.int .i64 b.fi, .int .i64 b.fl, .int .i64 b.f, .int .i64 b.cu, .int .i64 b.rf] 34) = wa at *
              generalize wz.heap.size = Y at *
              have hc := (HS.out.cell p f hp hf16).1
              have e1 := (HH.out.look p f hp hf16).1
              rw [← HM.out.2.1] at e1
              by_cases hz : (who.getD p []).getD f 0 = 0
              · have hE : (q == 0) = false := by simpa using fun h => e1.1 h hz
                rw [hz] at hc
                clear hz e1 HM
                go_wp2_with fail
                go_meet
                exact ⟨x, who, oa, oc, off, m, rfl, by omega, HS, HH⟩
              · have e3 := e1.2 hz
                have e4 := (HH.out.look p f hp hf16).2 (HM.out.2.1.symm.trans e3)
                have hzb : ((who.getD p []).getD f 0 == 0) = false := by simpa using hz
                have hzn := hz
                have hzc : ((who.getD p []).getD f 0 != 0) = true := by simpa using hz
                have hz1 := e4.1
                generalize hzz : (who.getD p []).getD f 0 = z at hc hzb hzn hzc hz1
                have HJ := Lib.hid hzz
                obtain ⟨u, hu⟩ : ∃ u : Nat, z - 1 = (u : Int) := ⟨(z - 1).toNat, by omega⟩
                have HZJ : Hid (u < off.length) := by show u < off.length; omega
                have huo : (u : Int) < (off.length : Int) := by omega
                have HU2 : Hid ((z - 1).toNat = u) := by show (z - 1).toNat = u; omega
                have e5 := HM.out.2.1.symm.trans e3
                have HE5 := Lib.hid e5
                clear hz hzz e1 e4 e5
                obtain ⟨hz1, hz2⟩ := hz1
                have hol2 : (off.length : Int) ≤ 100 := by omega
                have hwr : IntKind.i64.wrap (z - 1) = (u : Int) := by rw [IntWalk.i64_in _ (by omega), hu]
                subst e3
                go_wp2_with fail
                refine (HN.out 50 _ (by omega) (by omega) HS.out.tp).mono ?_
                rintro e wt ⟨v, v0, v1, rfl, hk, tp⟩
                replace HV := Lib.hid (HV.out.tick (by have := HS.out.tD; have := HS.out.DQ; have := HV.out.lo; omega) hk)
                replace HS := Lib.hid (HS.out.tick hk tp)
                clear hk tp
                obtain ⟨⟨k0, k1, k2, k3, k4⟩, k5, _⟩ := HV.out.at'.five
                go_upto_region 68 with (fail)
                replace HS := Lib.hid (HS.out.far HV.out 2 (.int .i64 v))
                have HV2 : Hid (Sy Q Y oa _ x [.int .i64 b.fi, .int .i64 b.fl, .int .i64 v, .int .i64 b.cu, .int .i64 b.rf]) := HV.out.set 2 (.int .i64 v)
                clear HV
                have HV := HV2
                clear HV2 k0 k1 k2 k3 k4 k5 hc
                generalize World.setCell _ ⟨Y, 2, none⟩ (.int .i64 v) = wu at *
                obtain ⟨⟨k0, k1, k2, k3, k4⟩, _, _⟩ := HV.out.at'.five
                have HU := Lib.hid (sh_updE HH.out HE5.out v0 v1)
                have HSX : Hid (DSz x) := (check_sz (rt_check HH.out.rt)).sz rfl
                obtain ⟨x0, x1, x2, x3, x4⟩ := HS.out.box.cc
                go_wp2_with fail
                have hup := upd_v x nv b.fi b.fl v b.cu b.rf wu HS.out.vi.di HSX.out
                rw [HM.out.1, HM.out.2.2, HU.out] at hup
                rw [HM.out.1, HM.out.2.2]
                refine hup.mono ?_
                clear hup
                rintro e wz ⟨y, rfl, hpl, ha, hb⟩
                clear x0 x1 x2 x3 x4
                clear HSX k0 k1 k2 k3 k4
                have HH2 : Hid (Sh y.pl who (off.set u v) m) := by
                  rw [hpl]
                  have h1 := sh_upd HH.out HE5.out HU.out
                  rw [HJ.out, HU2.out] at h1
                  exact h1
                clear hpl
                replace HV := Lib.hid (HV.out.below hb)
                have HV2 := Lib.hid (HV.out.below ((Below.refl _ _).alloc (Nat.le_refl _) (.cells #[.slice y.oa y.o.length y.oc, .slice y.ta y.t.length y.tc] 29)))
                have HZ2 := Lib.hid (Sz.new (HS.out.below hb) (HS.out.ans ha).1 (HS.out.ans ha).2)
                have HS2 := Lib.hid ((HS.out.below hb).alloc (.cells #[.slice y.oa y.o.length y.oc, .slice y.ta y.t.length y.tc] 29))
                replace HS := Lib.hid (HS.out.below hb)
                clear ha hb
                go_upto_region 69 with (fail)
                replace HS := HS2
                have HZ := HZ2
                clear HS2 HZ2
                generalize wz.alloc (Obj.cells #[.slice y.oa y.o.length y.oc, .slice y.ta y.t.length y.tc] 29) = wa at *
                generalize wz.heap.size = N at *
                clear HV
                skip
                obtain ⟨x0, x1, x2, x3, x4⟩ := HZ.out.box.cc
                obtain ⟨y0, y1, y2, y3, y4⟩ := HS.out.box.cc
                have HS2 := Lib.hid (HS.out.store HZ.out)
                obtain ⟨⟨k0, k1, k2, k3, k4⟩, _, _⟩ := HV2.out.at'.five
                have hYD : Y ≠ D := by have := HS.out.DQ; have := HV2.out.lo; omega
                have HV3 := Lib.hid ((HV2.out.at'.setOther (x := ⟨D, 0, none⟩) hYD (.slice y.oa y.o.length y.oc)).setOther (x := ⟨D, 1, none⟩) hYD (.slice y.ta y.t.length y.tc))
                go_upto_region 72 with (fail)
                clear HS HZ HV2 x0 x1 x2 x3 x4 y0 y1 y2 y3 y4 k0 k1 k2 k3 k4 HU HM HE5
                have HS := HS2
                have HV := HV3
                clear HS2 HV3
                generalize ((World.setCell _ ⟨D, 0, none⟩ (.slice y.oa y.o.length y.oc)).setCell ⟨D, 1, none⟩ (.slice y.ta y.t.length y.tc)) = wb at *
                obtain ⟨⟨k0, k1, k2, k3, k4⟩, _, _⟩ := HV.out.five
                have hc := (HS.out.cell p f hp hf16).1
                rw [HJ.out] at hc
                obtain ⟨g, hg, g1, g2, g3, g4, g5, g6⟩ := HS.out.offs u HZJ.out
                subst hg
                generalize hoj : off.getD u 0 = oj at g3
                clear hoj
                go_wp2_with fail
                go_region
                go_wp2_with fail
                go_meet
                exact ⟨y, who, _, oc, off.set u v, m, by simp, by simp; omega, (HS.out.putOff u v).below (Below.refl _ _).drew, HH2⟩
          case rest => as_aux_lemma =>
            clear HS HH HL hol
            skip
            obtain ⟨y, who', oa', oc', off', m', rfl, hol', HS, HH⟩ := hcut
            clear hp hf16
            go_wp2_with fail
            go_loopw [35] (fun v35 wr => ∃ i : Nat, v35 = .int .i64 i ∧ i ≤ 3 ∧ Hid (Ss w w.heap.size D Q a0 len0 cap0 wr y who' oa' oc' off')) (fun v35 _ => 3 - (intOf v35).toNat)
            case atStart => exact ⟨0, rfl, by omega, HS⟩
            case round =>
              clear HS
              obtain ⟨i, rfl, hi3, HS⟩ := hrel
              by_cases hi : i < 3
              · have hi' : (i : Int) < 3 := by omega
                go_wp2_with fail
                go_loopw [36] (fun v36 wr => ∃ j : Nat, v36 = .int .i64 j ∧ j ≤ 16 ∧ Hid (Ss w w.heap.size D Q a0 len0 cap0 wr y who' oa' oc' off')) (fun v36 _ => 16 - (intOf v36).toNat)
                case atStart => exact ⟨0, rfl, by omega, HS⟩
                case round =>
                  clear HS
                  obtain ⟨j, rfl, hj16, HS⟩ := hrel
                  by_cases hj : j < 16
                  · have hj' : (j : Int) < 16 := by omega
                    obtain ⟨nv, q, b, hm⟩ : ∃ (nv q : Int) (b : Dn), nv = numV y.pl i j ∧ q = numE y.pl i j ∧ b = lookV y.pl i j := ⟨_, _, _, rfl, rfl, rfl⟩
                    have HM := Lib.hid hm
                    clear hm
                    obtain ⟨x0, x1, x2, x3, x4⟩ := HS.out.box.cc
                    go_wp2_with fail
                    refine (look_s y i j nv q b _ HS.out.vi.di HH.out.rt HM.out).mono ?_
                    rintro e wz ⟨rfl, hb⟩
                    clear x0 x1 x2 x3 x4
                    replace HS := Lib.hid (HS.out.below hb)
                    clear hb
                    go_upto_region 80 with (fail)
                    have HV := Lib.hid (Sy.new HS.out [.int .i64 b.fi, .int .i64 b.fl, .int .i64 b.f, .int .i64 b.cu, .int .i64 b.rf] 34)
                    replace HS := Lib.hid (HS.out.alloc (.cells #[.int .i64 b.fi, .int .i64 b.fl, .int .i64 b.f, .int .i64 b.cu, .int .i64 b.rf] 34))
                    generalize wz.alloc (Obj.cells #[.int .i64 b.fi, .int .i64 b.fl, .int .i64 b.f, .int .i64 b.cu, .int .i64 b.rf] 34) = wa at *
                    generalize wz.heap.size = Y at *
                    skip
                    have hc := (HS.out.cell i j hi hj).1
                    have e1 := (HH.out.look i j hi hj).1
                    rw [← HM.out.2.1] at e1
                    obtain ⟨⟨k0, k1, k2, k3, k4⟩, _, _⟩ := HV.out.at'.five
                    by_cases hz : (who'.getD i []).getD j 0 = 0
                    · have hE : (q == 0) = false := by simpa using fun h => e1.1 h hz
                      rw [hz] at hc
                      clear hz e1 HM
                      go_wp2_with fail
                      go_quiet (fail)
                      go_wp2_with fail
                      go_roundw
                      case rel => exact ⟨j + 1, by go_num, by omega, HS.out.below (below_drewN (Below.refl _ _) nq)⟩
                      case measure => simp [intOf]; omega
                    · have e3 := e1.2 hz
                      have e4 := (HH.out.look i j hi hj).2 (HM.out.2.1.symm.trans e3)
                      rw [← HM.out.2.2] at e4
                      have hzb : ((who'.getD i []).getD j 0 == 0) = false := by simpa using hz
                      have hzn := hz
                      have hzc : ((who'.getD i []).getD j 0 != 0) = true := by simpa using hz
                      generalize hzz : (who'.getD i []).getD j 0 = z at hc hzb hzn hzc e4
                      obtain ⟨⟨hz1, hz2⟩, e5⟩ := e4
                      obtain ⟨u, hu⟩ : ∃ u : Nat, z - 1 = (u : Int) := ⟨(z - 1).toNat, by omega⟩
                      rw [hu, Int.toNat_natCast] at e5
                      obtain ⟨g, hg, g1, g2, g3, g4, g5, g6⟩ := HS.out.offs u (by omega)
                      rw [← e5] at g3
                      have huo : (u : Int) < (off'.length : Int) := by omega
                      have hol2 : (off'.length : Int) ≤ 100 := by omega
                      have hwr : IntKind.i64.wrap (z - 1) = (u : Int) := by rw [IntWalk.i64_in _ (by omega), hu]
                      subst hg
                      clear hz hzz e1 e5 HM
                      subst e3
                      go_wp2_with fail
                      go_quiet (fail)
                      go_wp2_with fail
                      go_roundw
                      case rel => exact ⟨j + 1, by go_num, by omega, HS.out.below (below_drewN (Below.refl _ _) nq)⟩
                      case measure => simp [intOf]; omega
                  · obtain rfl : j = 16 := by omega
                    go_wp2_with fail
                    go_roundw
                    case rel => exact ⟨i + 1, by go_num, by omega, HS⟩
                    case measure => simp [intOf]; omega
              · obtain rfl : i = 3 := by omega
                go_wp2_with fail
                go_roundw
                case rel => exact ⟨n + 1, y, who', oa', oc', off', m', by go_num, rfl, by omega, hol', HS, HH⟩
                case measure => simp [intOf]; omega
      · skip
        obtain ⟨x0, x1, x2, x3, x4⟩ := HS.out.box.cc
        go_wp2_with fail
        refine (check_t x _ HS.out.vi.di HH.out.rt).mono ?_
        rintro e wk ⟨rfl, hb⟩
        clear x0 x1 x2 x3 x4
        replace HS := Lib.hid (HS.out.below hb)
        clear hb
        go_wp2_with fail
        refine (awake_any _).mono ?_
        rintro e wl ⟨rfl, hb⟩
        go_wp2_with fail
        go_ret
        exact RetW.mk rfl (HS.out.tp.bel.trans (hb.mono HS.out.tp.bel.size))
    · obtain rfl : n = 40 := by omega
      obtain ⟨x0, x1, x2, x3, x4⟩ := HS.out.box.cc
      go_wp2_with fail
      refine (check_t x _ HS.out.vi.di HH.out.rt).mono ?_
      rintro e wk ⟨rfl, hb⟩
      clear x0 x1 x2 x3 x4
      replace HS := Lib.hid (HS.out.below hb)
      clear hb
      go_wp2_with fail
      refine (awake_any _).mono ?_
      rintro e wl ⟨rfl, hb⟩
      go_wp2_with fail
      go_ret
      exact RetW.mk rfl (HS.out.tp.bel.trans (hb.mono HS.out.tp.bel.size))
end Go.Proofs.Ytflcbefomjlgmaa
