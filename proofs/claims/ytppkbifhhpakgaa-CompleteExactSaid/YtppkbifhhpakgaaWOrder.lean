/- The walk of CompleteOrder. -/
import Derived.Test.YtppkbifhhpakgaaTwo
namespace Go.Proofs.Ytppkbifhhpakgaa
open Go.ChangeShapes Go.WideShapes Go.ChangeAt Go.RowKit

theorem At.far {w : World} {b b' : Nat} {cs : List Value} (h : At w b cs) (hne : b ≠ b') (i : Nat) (v : Value) : At (w.setCell ⟨b', i, none⟩ v) b cs :=
  h.apart hne i [v]
/-- what holds at the head of a round -/
structure OInv (w : World) (b9 b10 : Nat) (c : Int) (xs : List Prt) (v6 : Value) (base i : Nat) (S : Nat → Bool) (wr : World) : Prop where
  bel : Below w.heap.size w wr
  lo : w.heap.size ≤ base
  h9 : base ≤ b9
  h10 : base ≤ b10
  ne : b9 ≠ b10
  p : ∃ er ea P, At wr b9 (PV 3 1 c ((xs.length : Int) - i) er ea P) ∧ PS c xs (fun j => decide (j < i)) er ea P
  q : ∃ er ea P, At wr b10 (PV 3 1 c ((xs.length : Int) - i) er ea P) ∧ PS c xs S er ea P
  own : wr.ownsRow (w.heap.size + 1) 39 4 v6 xs.length (flat xs)
  olo : ∀ k, v6.ownBlock = some k → k < base
theorem region_calm2 {P : Program} {os : List Oper} {Q : Exit → Act → World → Prop} {id : Nat} {A : Act} {W : World} (Facts : Act → Prop) (T : World → Prop) (vals : List Value) (hm : P.follows .mixedOrders = true) (hc : calmOk os.toArray = true)
    (hf : Facts (putAll os vals A)) (h0 : T W.drew) (hs : ∀ F, Facts F → StepsOk P os.toArray F (fun _ => T) 0 os)
    (fin : ∀ w, T w → Q .normal (putAll os vals A) w) : (Code.region id os.toArray true).wp P Q A W :=
  region_calm (fun _ => T) vals hm hc rfl h0 (hs _ hf) (fun _ w hT _ => fin w hT)
theorem put_self {F : Act} {d : Nat} {v : Value} (h : F.tmps[d]? = some v) : F.put (some d) v = F := by
  obtain ⟨t, ds⟩ := F
  simp only [Act.put, Act.mk.injEq, and_true]
  refine Array.ext_getElem? (fun i => ?_)
  rw [Array.getElem?_setIfInBounds]
  by_cases hi : d = i
  · subst hi
    have hlt := (Array.getElem?_eq_some_iff.1 h).1
    rw [if_pos rfl, if_pos hlt]; exact h.symm
  · rw [if_neg hi]
theorem kput {F : Act} {d : Nat} {v : Value} {K : Act → World → Prop} {w : World} (h : F.tmps[d]? = some v) (hk : K F w) : K (F.put (some d) v) w := by rw [put_self h]; exact hk
theorem step_of {P : Program} {ops : Array Oper} {F : Act} {T : World → Prop} {i : Nat} {o : Oper} (hw : Region.wanted o (yielded ops F.tmps) = true)
    (h : ∀ w, T w → ∀ K : Act → World → Prop, (∀ w', T w' → K F w') → o.wp P F w K (fun _ _ _ => False)) : StepOk P ops F (fun _ => T) i o := fun l w _ hT _ _ =>
  ⟨fun _ => h w hT _ (fun w' hT' => ⟨rfl, hT'⟩), fun h2 => by rw [hw] at h2; cases h2⟩
theorem wanted_none {o : Oper} {y : Nat → Option Bool} (h : o.guard = none) : Region.wanted o y = true := by unfold Region.wanted; rw [h]
theorem wanted_some {o : Oper} {ops : Array Oper} {t : Array Value} {g d : Nat} (h : o.guard = some (g, true)) (hd : (ops[g]?).bind (·.dst) = some d) (ht : t[d]? = some (.bool true)) : Region.wanted o (yielded ops t) = true := by
  unfold Region.wanted yielded; rw [h]; simp [hd, ht]
theorem chain_pos {xs : List Prt} {c : Int} (h : Chain 0 xs c) (hc : 1 ≤ c) : 0 < xs.length := by
  cases xs with
  | nil => have h : (0 : Int) = c := h; omega
  | cons p r => simp
theorem good_dat {p : Prt} (h : Good p) : p.dat.size ≤ maxLen := by
  unfold maxLen
  rcases h.2.2.2 with h3 | h3
  · have := h.2.2.1; omega
  · rw [h3.2]; exact Nat.zero_le _
/-- which part ends i-th -/
def turn (odd : Bool) (rot n i : Nat) : Nat := if odd then n - 1 - i else (i + rot) % n
def turned (odd : Bool) (rot n i j : Nat) : Bool := (List.range i).any fun k => turn odd rot n k == j
theorem turned_step (odd : Bool) (rot n i : Nat) : upd (turned odd rot n i) (turn odd rot n i) = turned odd rot n (i + 1) := by
  funext j
  unfold upd turned
  rw [List.range_succ, List.any_append]
  simp only [List.any_cons, List.any_nil, Bool.or_false]
  rw [Bool.or_comm]
  congr 1
  by_cases h : j = turn odd rot n i
  · subst h; simp
  · have : (turn odd rot n i == j) = false := by simpa using fun e => h e.symm
    rw [this]; simpa using h
theorem turned_all (odd : Bool) (rot n j : Nat) (hr : rot < n) (hj : j < n) : turned odd rot n n j = true := by
  unfold turned
  rw [List.any_eq_true]
  cases odd with
  | true => exact ⟨n - 1 - j, by simp; omega, by simp [turn]; omega⟩
  | false =>
    by_cases h : rot ≤ j
    · exact ⟨j - rot, by simp; omega, by
        simp only [turn, Bool.false_eq_true, if_false, beq_iff_eq]
        rw [show j - rot + rot = j from by omega, Nat.mod_eq_of_lt hj]⟩
    · exact ⟨j + n - rot, by simp; omega, by
        simp only [turn, Bool.false_eq_true, if_false, beq_iff_eq]
        rw [show j + n - rot + rot = j + n from by omega, Nat.add_mod_right, Nat.mod_eq_of_lt hj]⟩
theorem turn_lt (odd : Bool) (rot n i : Nat) (hi : i < n) : turn odd rot n i < n := by
  unfold turn; split
  · omega
  · exact Nat.mod_lt _ (by omega)
set_option maxRecDepth 100000 in
set_option maxHeartbeats 4000000 in
theorem order_walk (n : Int) (a : Option Addr) (len cap : Nat) (by_ : Int) (w : World) (ha : ArgRow w a len) (hl : len ≤ maxLen) :
    Calls Try.prog 5 #[.int .i64 n, .slice a len cap, .int .i64 by_] w (RetW (.bool true) w) := by
  go_enter Try.func5, Try.ntmps5
  go_wp2_with fail
  refine (round_int n 8 _ (by omega) (by omega)).mono ?_
  rintro e1 w1 ⟨r, hr0, hr1, rfl, rfl⟩
  have hc : IntKind.i64.wrap (1 + r) = 1 + r := IntWalk.i64_in _ (by omega)
  go_wp2_with fail
  have hA1 := At.new w (RV 3 1 (1 + r)) 23
  have hB1 : Below w.heap.size w (w.alloc (.cells (RV 3 1 (1 + r)).toArray 23)) := (Below.refl _ _).alloc (Nat.le_refl _) _
  change Calls _ _ _ (w.alloc (.cells (RV 3 1 (1 + r)).toArray 23)) _
  have hz1 : (w.alloc (.cells (RV 3 1 (1 + r)).toArray 23)).heap.size = w.heap.size + 1 := by simp
  generalize w.alloc (.cells (RV 3 1 (1 + r)).toArray 23) = w1 at hA1 hB1 hz1 ⊢
  refine (parts_any (1 + r) a len cap w1 (by omega) (by omega) (ha.next hB1) hl).mono ?_
  rintro e2 w2 ⟨v6, xs, rfl, hp2⟩
  have hA2 := hA1.below hp2.bel hA1.hi
  have hB2 := hB1.trans (hp2.bel.mono (by omega))
  have hown2 := hp2.own
  have hch := hp2.chain
  rw [hz1] at hown2
  clear hA1 hB1 hp2
  go_upto_region 3 with (fail)
  have hz2 : w.heap.size + 1 ≤ w2.heap.size := by have := hA2.hi; omega
  refine region_sweep2 (fun A => 120 ≥ A.tmps.size ∧ 80 < A.tmps.size ∧ A.eval (.tmp 7) = .pointer (some ⟨w.heap.size, 0, none⟩)) (fun A l a wz => ∃ (l0 l1 l2 l3 l4 l5 l6 l7 : Bool) (vp vq x0 x1 x2 x3 : Value), l = #[l0, l1, l2, l3, l4, l5, l6, l7] ∧ a = put5 A vp vq x0 x1 x2 x3 ∧
    TwoInv w w.heap.size (RV 3 1 (1 + r)) (PV 3 1 (1 + r) 0 0 0 (begP 1 (1 + r))) v6 xs w2.heap.size l0 l1 l2 l3 l4 l5 l6 l7 vp vq x0 x1 x2 x3 wz) (by kernel_rfl) ⟨by simp, by simp, rfl⟩ ?_ ?_ ?_
  · refine ⟨false, false, false, false, false, false, false, false, _, _, _, _, _, _, rfl, rfl, ?_⟩
    exact ⟨hB2.drew, hA2.drew, by omega, own_below hown2 (Below.drew (Below.refl _ _)) (Nat.le_refl _), fun k hk => (own_block_lt hown2 k hk).2, by omega, Nat.le_refl _, by simp, by simp, by simp, by simp, by simp, by simp, by simp, by simp, by simp⟩
  · rintro A ⟨hA1, hA2, hA3⟩ Q l a wz i ⟨l0, l1, l2, l3, l4, l5, l6, l7, vp, vq, x0, x1, x2, x3, rfl, ha', hJ⟩ hi K hK
    have hA12 := And.intro hA1 hA2
    have hx := (put5_old A vp vq x0 x1 x2 x3 7 (by decide)).trans hA3
    have ga := put5_at0 A vp vq x0 x1 x2 x3 hA12
    have gb := put5_at1 A vp vq x0 x1 x2 x3 hA12
    have g0 := put5_at2 A vp vq x0 x1 x2 x3 hA12
    have g1 := put5_at3 A vp vq x0 x1 x2 x3 hA12
    have g2 := put5_at4 A vp vq x0 x1 x2 x3 hA12
    have g3 := put5_at5 A vp vq x0 x1 x2 x3 hA12
    have pa := fun u => put5_put0 A vp vq x0 x1 x2 x3 u
    have pb := fun u => put5_put1 A vp vq x0 x1 x2 x3 u
    have p0 := fun u => put5_put2 A vp vq x0 x1 x2 x3 u
    have p1 := fun u => put5_put3 A vp vq x0 x1 x2 x3 u
    have p2 := fun u => put5_put4 A vp vq x0 x1 x2 x3 u
    have p3 := fun u => put5_put5 A vp vq x0 x1 x2 x3 u
    rw [← ha'] at hx ga gb g0 g1 g2 g3
    simp only [← ha'] at pa pb p0 p1 p2 p3
    obtain ⟨hun, o, ho, haf⟩ := mem_ready.1 hi
    clear hi hA12 hA1 hA2 hA3
    have ho0 := ho
    rcases i with _ | _ | _ | _ | _ | _ | _ | _ | i
    all_goals simp only [List.getElem?_toArray, List.getElem?_cons_zero, List.getElem?_cons_succ, List.getElem?_nil, Option.some.injEq, reduceCtorEq] at ho
    all_goals subst ho
    all_goals simp [Region.binds] at haf hun
    all_goals refine wpOp_at ho0 rfl ?_
    all_goals clear ho0
    · refine wp_load_rv hJ.req rfl hx ?_
      exact hK _ _ ⟨true, l1, l2, l3, l4, l5, l6, l7, vp, vq, _, x1, x2, x3, rfl, p0 _, hJ.s0⟩
    · have hx := eval_get (g0.trans (hJ.h0 haf))
      have HP := Lib.hid p1
      have HJ := Lib.hid hJ
      clear ha' ga gb g0 g1 g2 g3 pa pb p0 p1 p2 p3 hJ haf hun
      go_simp
      refine (begin_pv _ _ _ _ (by omega) (by omega)).mono ?_
      rintro e w' ⟨rfl, hb⟩
      exact hK _ _ ⟨l0, true, l2, l3, l4, l5, l6, l7, vp, vq, _, _, x2, x3, rfl, HP.out _, (HJ.out.drew hb).s1⟩
    · refine wp_load_rv hJ.req rfl hx ?_
      exact hK _ _ ⟨l0, l1, true, l3, l4, l5, l6, l7, vp, vq, x0, x1, _, x3, rfl, p2 _, hJ.s2⟩
    · have hx := eval_get (g2.trans (hJ.h2 haf.1))
      have HP := Lib.hid p3
      have HJ := Lib.hid hJ
      clear ha' ga gb g0 g1 g2 g3 pa pb p0 p1 p2 p3 hJ haf hun
      go_simp
      refine (begin_pv _ _ _ _ (by omega) (by omega)).mono ?_
      rintro e w' ⟨rfl, hb⟩
      exact hK _ _ ⟨l0, l1, l2, true, l4, l5, l6, l7, vp, vq, x0, x1, _, _, rfl, HP.out _, (HJ.out.drew hb).s3⟩
    · have HP := Lib.hid pa
      have HJ := Lib.hid (hJ.s4 hun)
      clear ha' ga gb g0 g1 g2 g3 pa pb p0 p1 p2 p3 hJ haf hun hx
      go_simp
      exact hK _ _ ⟨l0, l1, l2, l3, true, l5, l6, l7, _, vq, x0, x1, x2, x3, rfl, HP.out _, HJ.out⟩
    · have HP := Lib.hid pb
      have HJ := Lib.hid (hJ.s5 hun)
      clear ha' ga gb g0 g1 g2 g3 pa pb p0 p1 p2 p3 hJ haf hun hx
      go_simp
      exact hK _ _ ⟨l0, l1, l2, l3, l4, true, l6, l7, vp, _, x0, x1, x2, x3, rfl, HP.out _, HJ.out⟩
    · have e1 : l1 = true := by simp [haf]
      have e4 : l4 = true := by simp [haf]
      have e5 : l5 = true := by simp [haf]
      subst e4 e5
      obtain ⟨b, cs, rfl, hb, hl16, hAt, _⟩ := hJ.h4 rfl
      refine wp_store_pv hAt hl16 rfl ga (g1.trans (hJ.h1 e1)) ?_
      exact hK _ _ ⟨l0, l1, l2, l3, true, true, true, l7, _, vq, x0, x1, x2, x3, rfl, ha', hJ.s6 rfl⟩
    · have e3 : l3 = true := by simp [haf]
      have e4 : l4 = true := by simp [haf]
      have e5 : l5 = true := by simp [haf]
      subst e4 e5
      obtain ⟨b, cs, rfl, hb, hl16, hAt, _⟩ := hJ.h5 rfl
      refine wp_store_pv hAt hl16 rfl gb (g3.trans (hJ.h3 e3)) ?_
      exact hK _ _ ⟨l0, l1, l2, l3, true, true, l6, true, vp, _, x0, x1, x2, x3, rfl, ha', hJ.s7 rfl⟩
  · rintro l az wz ⟨l0, l1, l2, l3, l4, l5, l6, l7, vp, vq, x0, x1, x2, x3, rfl, rfl, hJ⟩ hr
    have hall := all_up (by kernel_rfl) rfl hr
    have e4 : l4 = true := by simpa using hall 4 (by decide)
    have e5 : l5 = true := by simpa using hall 5 (by decide)
    have e6 : l6 = true := by simpa using hall 6 (by decide)
    have e7 : l7 = true := by simpa using hall 7 (by decide)
    subst e4 e5 e6 e7
    clear hall hr
    obtain ⟨b9, cs9, rfl, hb9, _, hA9, h9⟩ := hJ.h4 rfl
    obtain ⟨b10, cs10, rfl, hb10, _, hA10, h10⟩ := hJ.h5 rfl
    obtain rfl := h9 rfl
    obtain rfl := h10 rfl
    have hne : b9 ≠ b10 := fun e => hJ.ne rfl rfl (by rw [e])
    have hBz := hJ.bel
    have hownz := hJ.own
    have hol := hJ.olo
    have hbase : w.heap.size ≤ w2.heap.size := hJ.lo
    clear hJ h9 h10 hA2 hB2 hown2 hz1 hz2
    simp only [put5, List.setIfInBounds_toArray, List.set_cons_zero, List.set_cons_succ]
    generalize w2.heap.size = base at hb9 hb10 hol hbase
    have k9 := hA9.cell 11 _ rfl
    have f9 := hA9.free 11 (by simp [PV_len])
    have k10 := hA10.cell 11 _ rfl
    have f10 := hA10.free 11 (by simp [PV_len])
    obtain ⟨a6, c6z, rfl⟩ : ∃ a6 c6, v6 = .slice a6 xs.length c6 := by
      rcases hownz.2 with ⟨rfl, h⟩ | ⟨g, c, cur, rfl, _⟩
      · exact ⟨_, _, by rw [h]⟩
      · exact ⟨_, _, rfl⟩
    have hn8 := Chain.len hch
    have hinv0 : OInv w b9 b10 (1 + r) xs (.slice a6 xs.length c6z) base 0 (fun _ => false) ((wz.setCell ⟨b9, 11, none⟩ (.int .i64 (xs.length : Int))).setCell ⟨b10, 11, none⟩ (.int .i64 (xs.length : Int))) := by
      have hB : Below base wz ((wz.setCell ⟨b9, 11, none⟩ (.int .i64 (xs.length : Int))).setCell ⟨b10, 11, none⟩ (.int .i64 (xs.length : Int))) := ((Below.refl _ _).setCell (p := ⟨b9, 11, none⟩) hb9 _).setCell (p := ⟨b10, 11, none⟩) hb10 _
      have e9 : At (wz.setCell ⟨b9, 11, none⟩ (.int .i64 (xs.length : Int))) b9 (PV 3 1 (1 + r) (xs.length : Int) 0 0 (begP 1 (1 + r))) := hA9.set 11 _
      have e10 : At (wz.setCell ⟨b9, 11, none⟩ (.int .i64 (xs.length : Int))) b10 (PV 3 1 (1 + r) 0 0 0 (begP 1 (1 + r))) := hA10.far (fun e => hne e.symm) _ _
      have e10' : At ((wz.setCell ⟨b9, 11, none⟩ (.int .i64 (xs.length : Int))).setCell ⟨b10, 11, none⟩ (.int .i64 (xs.length : Int))) b10 (PV 3 1 (1 + r) (xs.length : Int) 0 0 (begP 1 (1 + r))) := e10.set 11 _
      have hz0 : (xs.length : Int) = (xs.length : Int) - ((0 : Nat) : Int) := by simp
      rw [hz0] at e9 e10'
      refine ⟨hBz.trans (hB.mono hbase), hbase, hb9, hb10, hne, ⟨0, 0, begP 1 (1 + r), e9.far hne 11 _, ?_⟩, ⟨0, 0, begP 1 (1 + r), e10', PS.start hch⟩, own_lt hownz hB hol, hol⟩
      have e : (fun j => decide (j < 0)) = fun _ : Nat => false := by funext j; simp
      rw [e]; exact PS.start hch
    have HI0 := Lib.hid hinv0
    clear hinv0
    go_wp2_with fail
    clear hA9 hA10 hBz hownz k9 f9 k10 f10
    obtain ⟨odd, hodd⟩ : ∃ odd : Bool, (bits BinOp.and IntKind.i64 by_ 1 == 1) = odd := ⟨_, rfl⟩
    obtain ⟨rot, hrot⟩ : ∃ rot : Nat, Hid (rot = (rnd by_ xs.length).toNat) := ⟨_, Lib.hid rfl⟩
    go_loopw [11] (fun v11 wr => ∃ i : Nat, v11 = .int .i64 i ∧ i ≤ xs.length ∧ OInv w b9 b10 (1 + r) xs (.slice a6 xs.length c6z) base i (turned odd rot xs.length i) wr) (fun v _ => xs.length - (intOf v).toNat)
    case atStart => exact ⟨0, rfl, Nat.zero_le _, HI0.out⟩
    case round =>
      obtain ⟨i, rfl, hi, hinv⟩ := hrel
      by_cases hlt : i < xs.length
      · obtain ⟨m, hm⟩ : ∃ m, m = (i + rot) % xs.length := ⟨_, rfl⟩
        have hml : m < xs.length := by rw [hm]; exact Nat.mod_lt _ (by omega)
        obtain ⟨y, hy⟩ : ∃ y, xs[m]? = some y := ⟨_, List.getElem?_eq_getElem hml⟩
        obtain ⟨p, hp⟩ : ∃ p, xs[i]? = some p := ⟨_, List.getElem?_eq_getElem hlt⟩
        obtain ⟨g, rfl, _, hg0, hg1, k0, k1, k2, k3⟩ := part_cell hinv.own m y hy
        have hilt : (i : Int) < (xs.length : Int) := by omega
        have HI := Lib.hid hinv
        clear hinv
        go_wp2_with fail
        refine (round_any by_ (xs.length : Int) _ (by omega) (by omega)).mono ?_
        rintro e2 w3 ⟨rfl, rfl⟩
        have r0 := rnd_lo by_ (xs.length : Int) (by omega)
        have r1 := rnd_hi by_ (xs.length : Int) (by omega)
        have er : rnd by_ (xs.length : Int) = (rot : Int) := by have := hrot.out; omega
        rw [er] at r0 r1 ⊢
        have q1 : IntKind.i64.wrap ((i : Int) + (rot : Int)) = (i : Int) + (rot : Int) := IntWalk.i64_in _ (by omega)
        have q2 : ((i : Int) + (rot : Int)).tmod (xs.length : Int) = (m : Int) := by
          rw [Int.tmod_eq_emod_of_nonneg (by omega), hm]; norm_cast
        have hmi : (m : Int) < (xs.length : Int) := by omega
        have HM := Lib.hid hm
        have HE := Lib.hid er
        clear hm er
        obtain ⟨z, hz⟩ : ∃ z, xs[xs.length - 1 - i]? = some z := ⟨_, List.getElem?_eq_getElem (by omega)⟩
        obtain ⟨g', hgg, _, _, _, z0, z1, z2, z3⟩ := part_cell HI.out.own _ z hz
        obtain rfl : g = g' := by simpa using hgg
        have hsub : (xs.length : Int) - 1 - (i : Int) = ((xs.length - 1 - i : Nat) : Int) := by omega
        have HSUB := Lib.hid hsub
        clear hgg hsub
        have hu : ∃ u, Hid (xs[turn odd rot xs.length i]? = some u) ∧ ((odd = false ∧ u = y) ∨ (odd = true ∧ u = z)) := by
          cases odd with
          | false => exact ⟨y, by unfold turn; simp only [Bool.false_eq_true, if_false]; rw [← HM.out]; exact hy, Or.inl ⟨rfl, rfl⟩⟩
          | true => exact ⟨z, by unfold turn; simp only [if_true]; exact hz, Or.inr ⟨rfl, rfl⟩⟩
        obtain ⟨u, hu, huc⟩ := hu
        have HP := Lib.hid hp
        clear hy hz hp
        rcases huc with ⟨rfl, rfl⟩ | ⟨rfl, rfl⟩
        all_goals
          go_wp2_with fail
          have hnew := At.new wr [.int .i64 u.off, .int .i64 u.cnt, .int .i64 u.err, .string u.dat] 39
          have hbW : Below wr.heap.size wr (wr.alloc (.cells [.int .i64 u.off, .int .i64 u.cnt, .int .i64 u.err, .string u.dat].toArray 39)) := (Below.refl _ _).alloc (Nat.le_refl _) _
          change Code.wp _ _ _ _ (wr.alloc (.cells [.int .i64 u.off, .int .i64 u.cnt, .int .i64 u.err, .string u.dat].toArray 39))
          generalize wr.alloc (.cells [.int .i64 u.off, .int .i64 u.cnt, .int .i64 u.err, .string u.dat].toArray 39) = W at hnew hbW ⊢
          obtain ⟨er9, ea9, P9, hA9, hPS9⟩ := HI.out.p
          obtain ⟨er10, ea10, P10, hA10, hPS10⟩ := HI.out.q
          have hlt9 : b9 < wr.heap.size := hA9.hi
          have hlt10 : b10 < wr.heap.size := hA10.hi
          have hA9 := hA9.below hbW hlt9
          have hA10 := hA10.below hbW hlt10
          have hownW := own_below HI.out.own hbW (Nat.le_refl _)
          clear z0 z1 z2 z3 k0 k1 k2 k3
          obtain ⟨g', hgg, _, _, hg1', k0, k1, k2, k3⟩ := part_cell hownW i p HP.out
          obtain rfl : g = g' := by simpa using hgg
          have hP8 := hPS9.size
          have hP8' := hPS10.size
          have hPm : P9.size ≤ maxLen := by unfold maxLen; omega
          have hPm' : P10.size ≤ maxLen := by unfold maxLen; omega
          obtain ⟨er', ea', P', hpart, hPS9'⟩ := hPS9.step (lf := (xs.length : Int) - i) (by omega) (by omega) (by omega) HP.out
          obtain ⟨er2, ea2, P2, hpart2, hPS10'⟩ := hPS10.step (lf := (xs.length : Int) - i) (by omega) (by omega) (by omega) hu.out
          have hcall := fun W0 => part_pv 3 1 (1 + r) ((xs.length : Int) - i) er9 ea9 P9 p.off p.cnt p.err p.dat W0 hPm (good_dat (chain_at hch HP.out).2.2)
          have hcall2 := fun W0 => part_pv 3 1 (1 + r) ((xs.length : Int) - i) er10 ea10 P10 u.off u.cnt u.err u.dat W0 hPm' (good_dat (chain_at hch hu.out).2.2)
          rw [hpart] at hcall
          rw [hpart2] at hcall2
          dsimp only at hcall hcall2
          rw [turned_step] at hPS10'
          have c0 := hA9.cell 0 _ rfl
          have c1 := hA9.cell 1 _ rfl
          have c2 := hA9.cell 2 _ rfl
          have c3 := hA9.cell 3 _ rfl
          have c4 := hA9.cell 4 _ rfl
          have c5 := hA9.cell 5 _ rfl
          have c6 := hA9.cell 6 _ rfl
          have c7 := hA9.cell 7 _ rfl
          have c8 := hA9.cell 8 _ rfl
          have c9 := hA9.cell 9 _ rfl
          have c10 := hA9.cell 10 _ rfl
          have c11 := hA9.cell 11 _ rfl
          have c12 := hA9.cell 12 _ rfl
          have c13 := hA9.cell 13 _ rfl
          have c14 := hA9.cell 14 _ rfl
          have c15 := hA9.cell 15 _ rfl
          have HA9 := Lib.hid hA9
          have HA10 := Lib.hid hA10
          have HN := Lib.hid hnew
          have HO := Lib.hid hownW
          have H9 := Lib.hid hPS9'
          have H10 := Lib.hid hPS10'
          have HB := Lib.hid (HI.out.bel.trans (hbW.mono HI.out.bel.size))
          have hnl := hnew.hi
          have hwz := hbW.size
          have hl9 := hA9.hi
          have hl10 := hA10.hi
          have HC2 := Lib.hid hcall2
          clear hA9 hA10 hnew hownW hPS9 hPS10 hPS9' hPS10' hpart hpart2 hP8 hP8' hPm hPm' hgg hbW hcall2
          go_still_tail 21, (by kernel_rfl)
          change wpList _ _ _ _ _ W.drew
          go_wp2_with fail
          refine (hcall _).mono ?_
          rintro e5 w5 ⟨rfl, hb5⟩
          have hbb : Below W.heap.size W w5 := (Below.drew (Below.refl _ _)).trans hb5
          have hA5 := HA9.out.below hbb hl9
          have HBB := Lib.hid hbb
          clear c0 c1 c2 c3 c4 c5 c6 c7 c8 c9 c10 c11 c12 c13 c14 c15 k0 k1 k2 k3 hb5 hbb
          go_wp2_with (with_reducible refine hold_store 26 rfl ?_)
          refine store_pv hA5 rfl rfl rfl rfl rfl ?_
          intro w6 hw6 hA6
          have hA10 : At w6 b10 (PV 3 1 (1 + r) ((xs.length : Int) - i) er10 ea10 P10) := by rw [hw6]; exact (HA10.out.below HBB.out hl10).apart (fun e => hne e.symm) _ _
          have hnew : At w6 wr.heap.size [.int .i64 u.off, .int .i64 u.cnt, .int .i64 u.err, .string u.dat] := by rw [hw6]; exact (HN.out.below HBB.out hnl).apart (by omega) _ _
          have hb6 : Below base W w6 := by rw [hw6]; exact below_cells hb9 _ _ (HBB.out.mono (by omega))
          have HO6 := Lib.hid (own_lt HO.out hb6 HI.out.olo)
          have HB6 := Lib.hid (HB.out.trans (hb6.mono HI.out.lo))
          have HA6 := Lib.hid hA6
          clear hw6 hA5 hb6 hA6
          go_wp2_with (with_reducible refine hold_load 26 rfl ?_)
          refine load_pv hA10 rfl rfl rfl ?_
          have y0 := hnew.cell 0 _ rfl
          have y1 := hnew.cell 1 _ rfl
          have y2 := hnew.cell 2 _ rfl
          have y3 := hnew.cell 3 _ rfl
          have HA10' := Lib.hid hA10
          clear hnew hA10
          go_wp2_with fail
          refine (HC2.out _).mono ?_
          rintro e7 w7 ⟨rfl, hb7⟩
          have hA7 := HA10'.out.below hb7 HA10'.out.hi
          have HB7 := Lib.hid hb7
          clear y0 y1 y2 y3 hb7
          go_wp2_with (with_reducible refine hold_store 26 rfl ?_)
          refine store_pv hA7 rfl rfl rfl rfl rfl ?_
          intro w8 hw8 hA8
          have hz68 : base ≤ w6.heap.size := by have := HA6.out.hi; omega
          have hb8 : Below base w6 w8 := by rw [hw8]; exact below_cells hb10 _ _ (HB7.out.mono hz68)
          have hnx : ((xs.length : Int) - i - 1) = (xs.length : Int) - ((i + 1 : Nat) : Int) := by omega
          have hnext : ∀ S, PS (1 + r) xs S er2 ea2 P2 → OInv w b9 b10 (1 + r) xs (.slice (some ⟨g, 0, none⟩) xs.length c6z) base (i + 1) S w8 := by
            intro S hS
            refine ⟨HB6.out.trans (hb8.mono HI.out.lo), HI.out.lo, hb9, hb10, hne, ⟨er', ea', P', ?_, ?_⟩, ⟨er2, ea2, P2, ?_, hS⟩, own_lt HO6.out hb8 HI.out.olo, HI.out.olo⟩
            · rw [← hnx, hw8]; exact (HA6.out.below HB7.out HA6.out.hi).apart hne _ _
            · have e : (fun j => decide (j < i + 1)) = upd (fun j => decide (j < i)) i := by
                funext j; unfold upd
                by_cases h1 : j = i
                · subst h1; simp
                · simp [h1]; omega
              rw [e]; exact H9.out
            · rw [← hnx]; exact hA8
          have HNX := Lib.hid (hnext _ H10.out)
          clear hw8 hA8 hA7 hb8 hnext
          go_wp2_with fail
          go_roundw
          case rel => exact ⟨i + 1, by go_num, by omega, HNX.out⟩
          case measure => simp [intOf]; omega
      · obtain rfl : i = xs.length := by omega
        have hxs := chain_pos hch (by omega)
        have hrl : rot < xs.length := by have := hrot.out; have := rnd_hi by_ (xs.length : Int) (by omega); have := rnd_lo by_ (xs.length : Int) (by omega); omega
        obtain ⟨er9, ea9, P9, hA9, hPS9⟩ := hinv.p
        obtain ⟨er10, ea10, P10, hA10, hPS10⟩ := hinv.q
        obtain ⟨rfl, rfl⟩ := hPS9.same hPS10 (fun j hj => by rw [turned_all odd rot xs.length j hrl hj]; simpa using hj)
        have hB := hinv.bel
        rw [Int.sub_self] at hA9 hA10
        have k9 := hA9.cell 11 _ rfl
        have k10 := hA10.cell 11 _ rfl
        clear hinv hPS9 hPS10
        obtain ⟨D, hD⟩ : ∃ D, ansS 1 er9 P9 = D := ⟨_, rfl⟩
        have HD := Lib.hid hD
        clear hD k9 k10
        go_upto_region 13 with (fail)
        refine region_calm2 (fun F => F.tmps[9]? = some (.pointer (some ⟨b9, 0, none⟩)) ∧ F.tmps[10]? = some (.pointer (some ⟨b10, 0, none⟩)) ∧ F.tmps[92]? = some (.agg (PV 3 1 (1 + r) 0 er9 ea9 P9).toArray) ∧ F.tmps[93]? = some (.agg #[.int .i64 3, .int .i64 er9, .string D, .int .i64 1]) ∧ F.tmps[94]? = some (.agg (PV 3 1 (1 + r) 0 er9 ea10 P9).toArray) ∧ F.tmps[95]? = some (.agg #[.int .i64 3, .int .i64 er9, .string D, .int .i64 1]) ∧ F.tmps[96]? = some (.bool true) ∧ F.tmps[97]? = some (.bool true) ∧ F.tmps[98]? = some (.pointer (some ⟨b9, 11, none⟩)) ∧ F.tmps[99]? = some (.int .i64 0) ∧ F.tmps[100]? = some (.bool true) ∧ F.tmps[101]? = some (.bool true) ∧ F.tmps[102]? = some (.bool true) ∧ F.tmps[103]? = some (.pointer (some ⟨b10, 11, none⟩)) ∧ F.tmps[104]? = some (.int .i64 0) ∧ F.tmps[105]? = some (.bool true) ∧ F.tmps[106]? = some (.bool true) ∧ F.tmps[107]? = some (.bool true) ∧ F.tmps[108]? = some (.bool true) ∧ F.tmps[109]? = some (.bool true) ∧ F.tmps[6]? = some (.bool true)) (fun wq => At wq b9 (PV 3 1 (1 + r) 0 er9 ea9 P9) ∧ At wq b10 (PV 3 1 (1 + r) 0 er9 ea10 P9) ∧ Below w.heap.size w wq) [.agg (PV 3 1 (1 + r) 0 er9 ea9 P9).toArray, .agg #[.int .i64 3, .int .i64 er9, .string D, .int .i64 1], .agg (PV 3 1 (1 + r) 0 er9 ea10 P9).toArray, .agg #[.int .i64 3, .int .i64 er9, .string D, .int .i64 1], .bool true, .bool true, .pointer (some ⟨b9, 11, none⟩), .int .i64 0, .bool true, .bool true, .bool true, .pointer (some ⟨b10, 11, none⟩), .int .i64 0, .bool true, .bool true, .bool true, .bool true, .bool true, .bool true] (by kernel_rfl) (by kernel_rfl) ?_ ⟨hA9.drew, hA10.drew, hB.drew⟩ ?_ ?_
        · simp only [putAll, Act.put, List.setIfInBounds_toArray, List.set_cons_zero, List.set_cons_succ]
          exact ⟨rfl, rfl, rfl, rfl, rfl, rfl, rfl, rfl, rfl, rfl, rfl, rfl, rfl, rfl, rfl, rfl, rfl, rfl, rfl, rfl, rfl⟩
        · rintro F ⟨f9, f10, f92, f93, f94, f95, f96, f97, f98, f99, f100, f101, f102, f103, f104, f105, f106, f107, f108, f109, f6⟩
          clear hA9 hA10 hB
          refine steps_cons ?_ (steps_cons ?_ (steps_cons ?_ (steps_cons ?_ (steps_cons ?_ (steps_cons ?_ (steps_cons ?_ (steps_cons ?_ (steps_cons ?_ (steps_cons ?_ (steps_cons ?_ (steps_cons ?_ (steps_cons ?_ (steps_cons ?_ (steps_cons ?_ (steps_cons ?_ (steps_cons ?_ (steps_cons ?_ (steps_cons ?_ (steps_nil)))))))))))))))))))
          · refine step_of (wanted_none rfl) (fun wq hT K hK => ?_)
            obtain ⟨g9, g10, gB⟩ := hT
            have HK := Lib.hid (hK wq ⟨g9, g10, gB⟩)
            exact wp_load_mid 26 (.tmp 9) rfl b9 0 (by simp [Act.eval, f9]) _ _ g9.r Try.underlying26 rfl size26 (kput (d := 92) f92 HK.out)
          · refine step_of (wanted_none rfl) (fun wq hT K hK => ?_)
            obtain ⟨g9, g10, gB⟩ := hT
            have HK := Lib.hid (hK wq ⟨g9, g10, gB⟩)
            have HKK := Lib.hid hK
            have G9 := Lib.hid g9
            have G10 := Lib.hid g10
            clear hK g9 g10 HK
            go_simp
            refine (answer_pv _ _ _ _ _ _ _ _ _).mono ?_
            rw [HD.out]
            rintro e w' ⟨rfl, hb⟩
            exact kput (d := 93) f93 (HKK.out w' ⟨G9.out.below hb G9.out.hi, G10.out.below hb G10.out.hi, gB.trans (hb.mono gB.size)⟩)
          · refine step_of (wanted_none rfl) (fun wq hT K hK => ?_)
            obtain ⟨g9, g10, gB⟩ := hT
            have HK := Lib.hid (hK wq ⟨g9, g10, gB⟩)
            exact wp_load_mid 26 (.tmp 10) rfl b10 0 (by simp [Act.eval, f10]) _ _ g10.r Try.underlying26 rfl size26 (kput (d := 94) f94 HK.out)
          · refine step_of (wanted_none rfl) (fun wq hT K hK => ?_)
            obtain ⟨g9, g10, gB⟩ := hT
            have HK := Lib.hid (hK wq ⟨g9, g10, gB⟩)
            have HKK := Lib.hid hK
            have G9 := Lib.hid g9
            have G10 := Lib.hid g10
            clear hK g9 g10 HK
            go_simp
            refine (answer_pv _ _ _ _ _ _ _ _ _).mono ?_
            rw [HD.out]
            rintro e w' ⟨rfl, hb⟩
            exact kput (d := 95) f95 (HKK.out w' ⟨G9.out.below hb G9.out.hi, G10.out.below hb G10.out.hi, gB.trans (hb.mono gB.size)⟩)
          · refine step_of (wanted_none rfl) (fun wq hT K hK => ?_)
            obtain ⟨g9, g10, gB⟩ := hT
            have HK := Lib.hid (hK wq ⟨g9, g10, gB⟩)
            clear hK g9 g10 gB
            go_simp
            exact kput (d := 96) f96 HK.out
          · refine step_of (wanted_none rfl) (fun wq hT K hK => ?_)
            obtain ⟨g9, g10, gB⟩ := hT
            have HK := Lib.hid (hK wq ⟨g9, g10, gB⟩)
            clear hK g9 g10 gB
            go_simp
            exact kput (d := 97) f97 HK.out
          · refine step_of (wanted_some rfl (d := 97) rfl f97) (fun wq hT K hK => ?_)
            obtain ⟨g9, g10, gB⟩ := hT
            have HK := Lib.hid (hK wq ⟨g9, g10, gB⟩)
            clear hK g9 g10 gB
            go_simp
            exact kput (d := 98) f98 HK.out
          · refine step_of (wanted_some rfl (d := 97) rfl f97) (fun wq hT K hK => ?_)
            obtain ⟨g9, g10, gB⟩ := hT
            have HK := Lib.hid (hK wq ⟨g9, g10, gB⟩)
            have hc := g9.cell 11 _ rfl
            clear hK g9 g10 gB
            go_simp
            exact kput (d := 99) f99 HK.out
          · refine step_of (wanted_some rfl (d := 97) rfl f97) (fun wq hT K hK => ?_)
            obtain ⟨g9, g10, gB⟩ := hT
            have HK := Lib.hid (hK wq ⟨g9, g10, gB⟩)
            clear hK g9 g10 gB
            go_simp
            exact kput (d := 100) f100 HK.out
          · refine step_of (wanted_none rfl) (fun wq hT K hK => ?_)
            obtain ⟨g9, g10, gB⟩ := hT
            have HK := Lib.hid (hK wq ⟨g9, g10, gB⟩)
            clear hK g9 g10 gB
            go_simp
            exact kput (d := 101) f101 HK.out
          · refine step_of (wanted_none rfl) (fun wq hT K hK => ?_)
            obtain ⟨g9, g10, gB⟩ := hT
            have HK := Lib.hid (hK wq ⟨g9, g10, gB⟩)
            clear hK g9 g10 gB
            go_simp
            exact kput (d := 102) f102 HK.out
          · refine step_of (wanted_some rfl (d := 102) rfl f102) (fun wq hT K hK => ?_)
            obtain ⟨g9, g10, gB⟩ := hT
            have HK := Lib.hid (hK wq ⟨g9, g10, gB⟩)
            clear hK g9 g10 gB
            go_simp
            exact kput (d := 103) f103 HK.out
          · refine step_of (wanted_some rfl (d := 102) rfl f102) (fun wq hT K hK => ?_)
            obtain ⟨g9, g10, gB⟩ := hT
            have HK := Lib.hid (hK wq ⟨g9, g10, gB⟩)
            have hc := g10.cell 11 _ rfl
            clear hK g9 g10 gB
            go_simp
            exact kput (d := 104) f104 HK.out
          · refine step_of (wanted_some rfl (d := 102) rfl f102) (fun wq hT K hK => ?_)
            obtain ⟨g9, g10, gB⟩ := hT
            have HK := Lib.hid (hK wq ⟨g9, g10, gB⟩)
            clear hK g9 g10 gB
            go_simp
            exact kput (d := 105) f105 HK.out
          · refine step_of (wanted_none rfl) (fun wq hT K hK => ?_)
            obtain ⟨g9, g10, gB⟩ := hT
            have HK := Lib.hid (hK wq ⟨g9, g10, gB⟩)
            clear hK g9 g10 gB
            go_simp
            exact kput (d := 106) f106 HK.out
          · refine step_of (wanted_none rfl) (fun wq hT K hK => ?_)
            obtain ⟨g9, g10, gB⟩ := hT
            have HK := Lib.hid (hK wq ⟨g9, g10, gB⟩)
            clear hK g9 g10 gB
            go_simp
            exact kput (d := 107) f107 HK.out
          · refine step_of (wanted_some rfl (d := 107) rfl f107) (fun wq hT K hK => ?_)
            obtain ⟨g9, g10, gB⟩ := hT
            have HK := Lib.hid (hK wq ⟨g9, g10, gB⟩)
            have HKK := Lib.hid hK
            have G9 := Lib.hid g9
            have G10 := Lib.hid g10
            clear hK g9 g10 HK
            go_simp
            refine (awake_any _).mono ?_
            rintro e w' ⟨rfl, hb⟩
            exact kput (d := 108) f108 (HKK.out w' ⟨G9.out.below hb G9.out.hi, G10.out.below hb G10.out.hi, gB.trans (hb.mono gB.size)⟩)
          · refine step_of (wanted_none rfl) (fun wq hT K hK => ?_)
            obtain ⟨g9, g10, gB⟩ := hT
            have HK := Lib.hid (hK wq ⟨g9, g10, gB⟩)
            clear hK g9 g10 gB
            go_simp
            exact kput (d := 109) f109 HK.out
          · refine step_of (wanted_none rfl) (fun wq hT K hK => ?_)
            obtain ⟨g9, g10, gB⟩ := hT
            have HK := Lib.hid (hK wq ⟨g9, g10, gB⟩)
            clear hK g9 g10 gB
            go_simp
            exact kput (d := 6) f6 HK.out
        · rintro wq ⟨g9, g10, gB⟩
          simp only [putAll, Act.put, List.setIfInBounds_toArray, List.set_cons_zero, List.set_cons_succ]
          go_wp2_with fail
          go_ret
          exact RetW.mk rfl gB
end Go.Proofs.Ytppkbifhhpakgaa
