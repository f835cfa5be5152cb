/- Layer 46, shared texts of this seat, part 24. -/
import Derived.Carry
import Derived.Maps.Keyed
import Derived.Test.YtimhaidiclbnhaaGreatM23
/- Layer 46: handlers: a map of 14 functions. -/
set_option linter.unusedSimpArgs false
set_option linter.unusedVariables false
set_option maxRecDepth 100000
namespace Go.Proofs.YtimhaidiclbnhaaGreat.Ver
open Go.ChangeShapes Go.WideShapes Go.ChangeAt Go.RowKit
open Go.ChangeMaps (setBlock heap_setBlock_same heap_setBlock_other)
theorem keyed3 : Go.Maps.Keyed Tryz.prog 3 := Go.Maps.int_keyed Tryz.underlying3
theorem key3 {k : Int} (h1 : -9223372036854775808 ≤ k) (h2 : k ≤ 9223372036854775807) : keyOf Tryz.prog 3 (.int .i64 k) = some (.int .i64 k) := by
  have m1 : IntKind.i64.min = -9223372036854775808 := rfl
  have m2 : IntKind.i64.max = 9223372036854775807 := rfl
  have hw1 : (Lit.int .i64 k).wf = true := by simp [Lit.wf, m1, m2]; omega
  simp [keyOf, mapKey, Tryz.underlying3, hw1]
/-- the function behind the kind n + 1, as a handler -/
def hV (n : Nat) : Value := .agg #[.func (.func (65 + n)) #[] #[]]
def hEnt (n : Nat) : MapEntry := { key := .int .i64 ((n : Int) + 1), val := hV n, born := n }
def hEs (n : Nat) : Array MapEntry := ((List.range n).map hEnt).toArray
/-- block b is the map of the first n handlers -/
def HMap (W : World) (b n : Nat) : Prop := W.heap[b]? = some (.map (hEs n) n)
def hW (W : World) (n : Nat) : World := W.alloc (.map (hEs n) n)
theorem hmap_new (W : World) (n : Nat) : HMap (hW W n) W.heap.size n := Go.heap_alloc_new W _
theorem hEs_keys (n : Nat) (hn : n ≤ 14) : ∀ x ∈ (hEs n).toList, ∃ l, keyOf Tryz.prog 3 x.key = some l := by
  intro x hx
  simp only [hEs, List.mem_map, List.mem_range] at hx
  obtain ⟨i, hi, rfl⟩ := hx
  exact ⟨_, key3 (k := (i : Int) + 1) (by omega) (by omega)⟩
theorem hfind (W : World) (n : Nat) (hn : n ≤ 14) (k : Int) (h1 : -9223372036854775808 ≤ k) (h2 : k ≤ 9223372036854775807) :
    ((Instr.findKey 3 (.int .i64 k) (hEs n).toList).run Tryz.prog W = .ok none W ∧ ¬ (1 ≤ k ∧ k ≤ n)) ∨
    ∃ j : Nat, (Instr.findKey 3 (.int .i64 k) (hEs n).toList).run Tryz.prog W = .ok (some (j, hV j)) W ∧ j < n ∧ k = (j : Int) + 1 := by
  rcases keyed3.find W (key3 h1 h2) (hEs n).toList (hEs_keys n hn) with ⟨a, b⟩ | ⟨j, e, a, b, c⟩
  · refine Or.inl ⟨a, fun hh => ?_⟩
    refine b (hEnt (k - 1).toNat) (by simp only [hEs, List.mem_map, List.mem_range]; exact ⟨(k - 1).toNat, by omega, rfl⟩) ?_
    simp only [hEnt]
    congr 1
    omega
  · simp only [hEs, List.getElem?_map, Option.map_eq_some_iff] at b
    obtain ⟨i, hi, rfl⟩ := b
    obtain ⟨hi1, hi2⟩ := List.getElem?_eq_some_iff.1 hi
    simp only [List.length_range] at hi1
    simp only [List.getElem_range] at hi2
    subst hi2
    refine Or.inr ⟨j, a, hi1, ?_⟩
    simp only [hEnt, Value.int.injEq, true_and] at c
    exact c.symm
theorem set_alloc (W : World) (o o' : Obj) : setBlock (W.alloc o) W.heap.size o' = W.alloc o' := by
  have h : (W.heap.push o).setIfInBounds W.heap.size o' = W.heap.push o' := by
    apply Array.ext
    · simp
    · intro i h1 h2
      simp only [Array.size_push] at h2
      rcases Nat.lt_or_ge i W.heap.size with h | h
      · rw [Array.getElem_setIfInBounds_ne (by simp; omega) (by omega), Array.getElem_push_lt h, Array.getElem_push_lt h]
      · obtain rfl : i = W.heap.size := by omega
        simp
  show ({ W with heap := (W.heap.push o).setIfInBounds W.heap.size o' } : World) = { W with heap := W.heap.push o' }
  rw [h]
theorem hins (W : World) (n : Nat) (hn : n < 14) (k : Int) (f : Nat) (hk : k = (n : Int) + 1) (hf : f = 65 + n) :
    (Instr.mapUpdate 119 (.map (some W.heap.size)) (.int .i64 k) (.agg #[.func (.func f) #[] #[]])).run Tryz.prog (hW W n) = .ok () (hW W (n + 1)) := by
  have hb := hmap_new W n
  have hlk := key3 (k := k) (by omega) (by omega)
  have h1 : (Instr.findKey 3 (.int .i64 k) (hEs n).toList).run Tryz.prog (hW W n) = .ok none (hW W n) := by
    rcases hfind (hW W n) n (by omega) k (by omega) (by omega) with ⟨a, _⟩ | ⟨j, _, h2, h3⟩
    · exact a
    · omega
  have e1 : setBlock (hW W n) W.heap.size (.map ((hEs n).push { key := .int .i64 k, val := .agg #[.func (.func f) #[] #[]], born := n }) (n + 1)) = hW W (n + 1) := by
    subst hk hf
    have e2 : (hEs n).push { key := .int .i64 ((n : Int) + 1), val := .agg #[.func (.func (65 + n)) #[] #[]], born := n } = hEs (n + 1) := by
      simp [hEs, List.range_succ, hEnt, hV]
    rw [e2]
    exact set_alloc W _ _
  rw [← e1]
  generalize hW W n = w at *
  simp [Instr.mapUpdate, run_underlying Tryz.underlying119, MapKept.run_getObj_map hb, keyed3.check w _ hlk, h1, MapKept.run_setObj_map _ hb, Result.andThen, setBlock]
set_option maxHeartbeats 8000000 in
theorem handlers_any (W : World) : Calls Tryz.prog 39 #[] W (RetW (.map (some W.heap.size)) (hW W 14)) := by
  have hmm : (Instr.makeMap 119 none).run Tryz.prog W = .ok (.map (some W.heap.size)) (hW W 0) := rfl
  have h0 := hins W 0 (by decide) 1 65 rfl rfl
  have h1 := hins W 1 (by decide) 2 66 rfl rfl
  have h2 := hins W 2 (by decide) 3 67 rfl rfl
  have h3 := hins W 3 (by decide) 4 68 rfl rfl
  have h4 := hins W 4 (by decide) 5 69 rfl rfl
  have h5 := hins W 5 (by decide) 6 70 rfl rfl
  have h6 := hins W 6 (by decide) 7 71 rfl rfl
  have h7 := hins W 7 (by decide) 8 72 rfl rfl
  have h8 := hins W 8 (by decide) 9 73 rfl rfl
  have h9 := hins W 9 (by decide) 10 74 rfl rfl
  have h10 := hins W 10 (by decide) 11 75 rfl rfl
  have h11 := hins W 11 (by decide) 12 76 rfl rfl
  have h12 := hins W 12 (by decide) 13 77 rfl rfl
  have h13 := hins W 13 (by decide) 14 78 rfl rfl
  simp only [Nat.reduceAdd] at h0 h1 h2 h3 h4 h5 h6 h7 h8 h9 h10 h11 h12 h13
  go_enter Tryz.func39, Tryz.ntmps39
  go_wp2_with fail
  exact bodyPost_ret (v := .map (some W.heap.size)) (by simp [results, Tryz.results39, go_sem]) rfl (RetW.mk rfl (Below.refl _ _))
end Go.Proofs.YtimhaidiclbnhaaGreat.Ver
/- Layer 46: ordered. -/
set_option linter.unusedSimpArgs false
set_option linter.unusedVariables false
set_option maxRecDepth 100000
namespace Go.Proofs.YtimhaidiclbnhaaGreat.Ver
open Go.ChangeShapes Go.WideShapes Go.ChangeAt Go.RowKit
open Des (Dv De Dn DIn DBlk DAns Vi At RowOf ints DSz)
open Ara (Ar ARow)
open Con (StrRow)
def ordB (s : St) (i : Int) (x : Ev) : Bool :=
  let g := decide (i = 0 ∨ s.tm ≤ x.tm)
  if x.pr = -1 then g else decide (g = true ∧ 0 ≤ x.bg ∧ x.bg ≤ i ∧ s.bg.getD x.pr.toNat 0 ≤ x.bg ∧ x.ix = s.fin.getD x.pr.toNat 0)
def ordS (s : St) (x : Ev) : St :=
  if x.pr = -1 then { s with tm := x.tm } else { s with tm := x.tm, bg := s.bg.set x.pr.toNat x.bg, fin := s.fin.set x.pr.toNat (s.fin.getD x.pr.toNat 0 + 1) }
set_option maxHeartbeats 40000000 in
theorem ordered_any (B : Nat) (l : Ly) (s : St) (i : Int) (x : Ev) (W : World) (h : Mm B W l s) (hx : x.pr = -1 ∨ ∃ p : Nat, x.pr = (p : Int) ∧ p < s.scr.length) (hbl : s.bg.length = s.scr.length) (hnl : s.fin.length = s.scr.length) (hn : s.scr.length ≤ 1000) (hfb : ∀ p, 0 ≤ s.fin.getD p 0 ∧ s.fin.getD p 0 ≤ 1000000) :
    Calls Tryz.prog 38 #[.pointer (some ⟨l.M, 0, none⟩), .int .i64 i, evVal x] W fun e w' => e = .returned (.bool (ordB s i x)) ∧ Mm B w' l (ordS s x) ∧ Vk (vs l) W w' := by
  have HM := Lib.hid h
  have HE := Lib.hid (Des.At.new W x.cells 64)
  have HBW : Hid (Below W.heap.size W (W.alloc (.cells x.cells.toArray 64))) := Lib.hid ((Below.refl _ _).alloc (Nat.le_refl _) _)
  have HG : Hid (ordB s i x = if x.pr = -1 then decide (i = 0 ∨ s.tm ≤ x.tm) else decide (decide (i = 0 ∨ s.tm ≤ x.tm) = true ∧ 0 ≤ x.bg ∧ x.bg ≤ i ∧ s.bg.getD x.pr.toNat 0 ≤ x.bg ∧ x.ix = s.fin.getD x.pr.toNat 0)) := Lib.hid rfl
  have HS : Hid (ordS s x = if x.pr = -1 then { s with tm := x.tm } else { s with tm := x.tm, bg := s.bg.set x.pr.toNat x.bg, fin := s.fin.set x.pr.toNat (s.fin.getD x.pr.toNat 0 + 1) }) := Lib.hid rfl
  generalize ordB s i x = rB at *
  generalize ordS s x = rS at *
  unfold evVal
  have hMW : l.M < W.heap.size := h.m.hi
  clear h
  have HX := Lib.hid hx
  have HFB := Lib.hid hfb
  clear hx hfb
  go_enter Tryz.func38, Tryz.ntmps38
  go_upto_region 1 with (fail)
  unfold Ev.cells at HE HBW
  generalize World.alloc W (Obj.cells #[.int .i64 x.tm, .int .i64 x.pr, .int .i64 x.ix, .int .i64 x.fi, .int .i64 x.at', .int .i64 x.bg, .int .i64 x.er, .int .i64 x.n, .string x.dat] 64) = W1 at *
  go_cut [7, 6] (fun v v6 wx => v = .bool (decide (i = 0 ∨ s.tm ≤ x.tm)) ∧ v6 = .bool false ∧ Hid (Below W1.heap.size W1 wx))
  case first =>
    have e0 := HE.out.cell 0 (.int .i64 x.tm) rfl
    have mT := (HM.out.below HBW.out).cT
    by_cases h0 : i = 0
    · subst h0
      go_wp2_with fail
      go_quiet (fail)
      go_wp2_with fail
      go_meet
      exact ⟨by simp, rfl, Lib.hid (below_drewN (Below.refl _ _) nq)⟩
    · go_wp2_with fail
      go_quiet (fail)
      go_wp2_with fail
      go_meet
      exact ⟨by simp [h0], rfl, Lib.hid (below_drewN (Below.refl _ _) nq)⟩
  case rest =>
  obtain ⟨rfl, rfl, HBB⟩ := hcut
  obtain ⟨W2, hW2⟩ : ∃ W2, W2 = wc := ⟨_, rfl⟩
  subst hW2
  have HB2 : Hid (Below W.heap.size W W2) := Lib.hid (HBW.out.trans (HBB.out.mono HBW.out.size))
  have HE2 := Lib.hid (HE.out.below HBB.out HE.out.hi)
  clear HBW HBB HE
  generalize decide (i = 0 ∨ s.tm ≤ x.tm) = g at *
  have HM3 := Lib.hid ((HM.out.below HB2.out).putT x.tm)
  have HE3 := Lib.hid (HE2.out.setOther (x := ⟨l.M, 31, none⟩) (by show W.heap.size ≠ l.M; omega) (.int .i64 x.tm))
  have HV3 := Lib.hid ((Vk.ofBelow HB2.out).trans (Vk.set (V := vs l) W2 l.M 31 (.int .i64 x.tm) (mvs l).1))
  have e0 := HE2.out.cell 0 (.int .i64 x.tm) rfl
  have e1 := HE3.out.cell 1 (.int .i64 x.pr) rfl
  have m0 := (HM.out.below HB2.out).cT
  have m1 := (HM.out.below HB2.out).m.free 31 (by simp [mC])
  have m2 := (HM.out.below HB2.out).m.hi
  go_upto_if 26 with (fail)
  clear e0 e1 m0 m1 m2
  generalize W2.setCell ⟨l.M, 31, none⟩ (.int .i64 x.tm) = W3 at *
  by_cases hp : x.pr = -1
  · have hd : (x.pr == -1) = true := by simp [hp]
    rw [hd]
    go_wp2_with fail
    exact bodyPost_ret (v := .bool g) (by simp [results, Tryz.results38, go_sem]) rfl ⟨by rw [HG.out, if_pos hp], by rw [HS.out, if_pos hp]; exact HM3.out, HV3.out⟩
  · have hd : (x.pr == -1) = false := by simp [hp]
    rw [hd]
    obtain ⟨p, hpp, hps⟩ := HX.out.resolve_left hp
    rw [if_neg hp, hpp, Int.toNat_natCast] at HG HS
    clear hd hp HX
    have HP := Lib.hid hpp
    clear hpp
    have HFP := Lib.hid (HFB.out p)
    have HBP : Hid ((ints s.bg)[p]? = some (.int .i64 (s.bg.getD p 0))) := Lib.hid (Des.ints_at s.bg p (by omega))
    have HNP : Hid ((ints s.fin)[p]? = some (.int .i64 (s.fin.getD p 0))) := Lib.hid (Des.ints_at s.fin p (by omega))
    clear HFB
    generalize s.bg.getD p 0 = bv at *
    generalize s.fin.getD p 0 = fv at *
    have hpI : (p : Int) < (s.scr.length : Int) := by omega
    have hnI : (s.scr.length : Int) ≤ 1000 := by omega
    go_upto_region 5 with (fail)
    go_cut [7, 6] (fun v v6 wx => v = .bool (decide (g = true ∧ 0 ≤ x.bg ∧ x.bg ≤ i ∧ bv ≤ x.bg ∧ x.ix = fv)) ∧ v6 = .bool false ∧ Hid (Below W3.heap.size W3 wx))
    case first =>
      have e1 := HE3.out.cell 1 (.int .i64 (p : Int)) (by rw [← HP.out]; rfl)
      have e2 := HE3.out.cell 2 (.int .i64 x.ix) rfl
      have e5 := HE3.out.cell 5 (.int .i64 x.bg) rfl
      have mB := HM3.out.cB
      have mN := HM3.out.cN
      have a1 := HM3.out.b.cell p _ HBP.out
      have a2 := HM3.out.n.cell p _ HNP.out
      rcases Bool.eq_false_or_eq_true g with hg | hg
      rotate_left
      · obtain rfl : g = false := hg
        go_wp2_with fail
        go_quiet (fail)
        go_wp2_with fail
        go_meet
        exact ⟨by simp, rfl, Lib.hid (below_drewN (Below.refl _ _) nq)⟩
      · obtain rfl : g = true := hg
        by_cases t1 : 0 ≤ x.bg
        · by_cases t2 : x.bg ≤ i
          · by_cases t3 : bv ≤ x.bg
            · go_wp2_with fail
              go_quiet (fail)
              go_wp2_with fail
              go_meet
              exact ⟨by by_cases q : x.ix = fv <;> simp [t1, t2, t3, q], rfl, Lib.hid (below_drewN (Below.refl _ _) nq)⟩
            · have d : decide (bv ≤ x.bg) = false := decide_eq_false t3
              replace t3 := Lib.hid t3
              go_wp2_with fail
              go_quiet (fail)
              go_wp2_with fail
              go_meet
              exact ⟨congrArg Value.bool (decide_eq_false (fun hh => by have hb1 := t3.out; have hb2 := hh.2.2.2.1; omega)).symm, rfl, Lib.hid (below_drewN (Below.refl _ _) nq)⟩
          · have d : decide (x.bg ≤ i) = false := decide_eq_false t2
            replace t2 := Lib.hid t2
            go_wp2_with fail
            go_quiet (fail)
            go_wp2_with fail
            go_meet
            exact ⟨congrArg Value.bool (decide_eq_false (fun hh => by have hb1 := t2.out; have hb2 := hh.2.2.1; omega)).symm, rfl, Lib.hid (below_drewN (Below.refl _ _) nq)⟩
        · have d : decide (0 ≤ x.bg) = false := decide_eq_false t1
          replace t1 := Lib.hid t1
          go_wp2_with fail
          go_quiet (fail)
          go_wp2_with fail
          go_meet
          exact ⟨congrArg Value.bool (decide_eq_false (fun hh => by have hb1 := t1.out; have hb2 := hh.2.1; omega)).symm, rfl, Lib.hid (below_drewN (Below.refl _ _) nq)⟩
    case rest =>
    obtain ⟨rfl, rfl, HBB⟩ := hcut
    rw [← HG.out]
    obtain ⟨W4, hW4⟩ : ∃ W4, W4 = wc := ⟨_, rfl⟩
    subst hW4
    have hBW := HM.out.b.hi
    have hNW := HM.out.n.hi
    have HM4 := Lib.hid ((HM3.out.below HBB.out).below (Below.refl W4.heap.size W4).drew)
    have HE4 := Lib.hid (Des.At.drew (HE3.out.below HBB.out HE3.out.hi))
    have HV4 := Lib.hid ((HV3.out.trans (Vk.ofBelow HBB.out)).trans (Vk.ofBelow (V := vs l) (Below.refl W4.heap.size W4).drew))
    clear HM3 HE3 HV3 HBB
    go_upto_region 6 with (fail)
    have e1 := HE4.out.cell 1 (.int .i64 (p : Int)) (by rw [← HP.out]; rfl)
    have e5 := HE4.out.cell 5 (.int .i64 x.bg) rfl
    have mB := HM4.out.cB
    have f1 := HM4.out.b.free p (by simp [ints]; omega)
    have f2 := HM4.out.b.hi
    have a1 := HM4.out.b.cell p _ HBP.out
    have HM5 := Lib.hid (HM4.out.putB p x.bg)
    have HE5 := Lib.hid (HE4.out.setOther (x := ⟨l.B, p, none⟩) (by show W.heap.size ≠ l.B; omega) (.int .i64 x.bg))
    have HV5 := Lib.hid (HV4.out.trans (Vk.set (V := vs l) W4.drew l.B p (.int .i64 x.bg) (mvs l).2.2.2.2.2.2.2.2))
    obtain ⟨W5, hW5⟩ : ∃ W5, W5 = W4.drew.setCell ⟨l.B, p, none⟩ (.int .i64 x.bg) := ⟨_, rfl⟩
    rw [← hW5] at HM5 HE5 HV5
    have HW5 := Lib.hid hW5
    clear hW5
    go_region
    rw [show (W4.setCell ⟨l.B, p, none⟩ (.int .i64 x.bg)).drew = W5 from HW5.out.symm] at *
    clear e1 e5 mB f1 f2 a1 HM4 HE4 HV4 HW5
    go_upto_region 7 with (fail)
    have HM6 := Lib.hid (HM5.out.below (Below.refl W5.heap.size W5).drew)
    have HE6 := Lib.hid (Des.At.drew HE5.out)
    have HV6 := Lib.hid (HV5.out.trans (Vk.ofBelow (V := vs l) (Below.refl W5.heap.size W5).drew))
    have e1 := HE6.out.cell 1 (.int .i64 (p : Int)) (by rw [← HP.out]; rfl)
    have mN := HM6.out.cN
    have f1 := HM6.out.n.free p (by simp [ints]; omega)
    have f2 := HM6.out.n.hi
    have a1 := HM6.out.n.cell p _ HNP.out
    have hwr : wrap64 (fv + 1) = fv + 1 := IntWalk.wrap64_in _ (by have := HFP.out; omega)
    have HM7 := Lib.hid (HM6.out.putN p (fv + 1))
    have HV7 := Lib.hid (HV6.out.trans (Vk.set (V := vs l) W5.drew l.N p (.int .i64 (fv + 1)) (mvs l).2.2.2.2.2.2.2.1))
    obtain ⟨W6, hW6⟩ : ∃ W6, W6 = W5.drew.setCell ⟨l.N, p, none⟩ (.int .i64 (fv + 1)) := ⟨_, rfl⟩
    rw [← hW6] at HM7 HV7
    have HW6 := Lib.hid hW6
    clear hW6
    go_region
    rw [show (W5.setCell ⟨l.N, p, none⟩ (.int .i64 (fv + 1))).drew = W6 from HW6.out.symm] at *
    clear e1 mN f1 f2 a1 HM6 HE6 HV6 HW6
    go_wp2_with fail
    exact bodyPost_ret (v := .bool rB) (by simp [results, Tryz.results38, go_sem]) rfl ⟨rfl, by rw [HS.out]; exact HM7.out, HV7.out⟩
end Go.Proofs.YtimhaidiclbnhaaGreat.Ver
/- Layer 46: the lookup of a handler. -/
set_option linter.unusedSimpArgs false
set_option linter.unusedVariables false
set_option maxRecDepth 100000
namespace Go.Proofs.YtimhaidiclbnhaaGreat.Ver
open Go.ChangeShapes Go.WideShapes Go.ChangeAt Go.RowKit
theorem hlook (W : World) (b : Nat) (hb : HMap W b 14) (k : Int) (n : Nat) (hk : k = (n : Int) + 1) (hn : n < 14) :
    (Instr.lookup 119 (.map (some b)) (.int .i64 k) true).run Tryz.prog W = .ok (.tuple #[hV n, .bool true]) W := by
  have hlk := key3 (k := k) (by omega) (by omega)
  have h1 : (Instr.findKey 3 (.int .i64 k) (hEs 14).toList).run Tryz.prog W = .ok (some (n, hV n)) W := by
    rcases hfind W 14 (by omega) k (by omega) (by omega) with ⟨_, h⟩ | ⟨j, a, _, h3⟩
    · omega
    · obtain rfl : j = n := by omega
      exact a
  simp [Instr.lookup, run_underlying Tryz.underlying119, MapKept.run_getObj_map hb, keyed3.check W _ hlk, h1, Result.andThen]
end Go.Proofs.YtimhaidiclbnhaaGreat.Ver
/- Layer 46: known. -/
set_option linter.unusedSimpArgs false
set_option linter.unusedVariables false
set_option maxRecDepth 100000
namespace Go.Proofs.YtimhaidiclbnhaaGreat.Ver
open Go.ChangeShapes Go.WideShapes Go.ChangeAt Go.RowKit
open Des (At ints)
def knB (s : St) (x : Ev) : Bool := if x.pr = -1 then decide (0 ≤ x.fi ∧ x.fi < (s.fs.length : Int)) else decide (0 ≤ x.pr ∧ x.pr < (s.scr.length : Int) ∧ 0 ≤ x.ix ∧ x.ix < ((s.scr.getD x.pr.toNat []).length : Int))
set_option maxHeartbeats 8000000 in
theorem known_any (B : Nat) (l : Ly) (s : St) (x : Ev) (W : World) (h : Mm B W l s) (hn : s.fs.length ≤ 1000) (hsc : s.scr.length ≤ 1000) :
    Calls Tryz.prog 24 #[.pointer (some ⟨l.M, 0, none⟩), evVal x] W fun e w' => e = .returned (.bool (knB s x)) ∧ Below W.heap.size W w' := by
  have HM := Lib.hid h
  have HE := Lib.hid (Des.At.new W x.cells 64)
  have HBW : Hid (Below W.heap.size W (W.alloc (.cells x.cells.toArray 64))) := Lib.hid ((Below.refl _ _).alloc (Nat.le_refl _) _)
  have HG : Hid (knB s x = if x.pr = -1 then decide (0 ≤ x.fi ∧ x.fi < (s.fs.length : Int)) else decide (0 ≤ x.pr ∧ x.pr < (s.scr.length : Int) ∧ 0 ≤ x.ix ∧ x.ix < ((s.scr.getD x.pr.toNat []).length : Int))) := Lib.hid rfl
  generalize knB s x = rB at *
  unfold evVal
  clear h
  go_enter Tryz.func24, Tryz.ntmps24
  unfold Ev.cells at HE HBW
  have e1 := HE.out.cell 1 (.int .i64 x.pr) rfl
  go_upto_if 7 with (fail)
  generalize World.alloc W (Obj.cells #[.int .i64 x.tm, .int .i64 x.pr, .int .i64 x.ix, .int .i64 x.fi, .int .i64 x.at', .int .i64 x.bg, .int .i64 x.er, .int .i64 x.n, .string x.dat] 64) = W1 at *
  have mF := (HM.out.below HBW.out).cF
  have e3 := HE.out.cell 3 (.int .i64 x.fi) rfl
  by_cases hp : x.pr = -1
  · have hd : (x.pr == -1) = true := by simp [hp]
    rw [hd]
    rw [if_pos hp] at HG
    clear hp hd
    by_cases t1 : 0 ≤ x.fi
    · go_wp2_with fail
      go_quiet (fail)
      go_wp2_with fail
      exact bodyPost_ret (v := .bool (decide (x.fi < (s.fs.length : Int)))) (by simp [results, Tryz.results24, go_sem]) rfl ⟨by rw [HG.out]; exact congrArg (fun b => Ending.returned (.bool b)) (by by_cases q : x.fi < (s.fs.length : Int) <;> simp [t1, q]), HBW.out.trans ((below_drewN (Below.refl _ _) nq).mono HBW.out.size)⟩
    · have d : decide (0 ≤ x.fi) = false := decide_eq_false t1
      replace t1 := Lib.hid t1
      go_wp2_with fail
      go_quiet (fail)
      go_wp2_with fail
      exact bodyPost_ret (v := .bool (false)) (by simp [results, Tryz.results24, go_sem]) rfl ⟨by rw [HG.out]; exact congrArg (fun b => Ending.returned (.bool b)) ((decide_eq_false (fun hh => by have h1 := t1.out; have h2 := hh.1; omega)).symm), HBW.out.trans ((below_drewN (Below.refl _ _) nq).mono HBW.out.size)⟩
  · have hd : (x.pr == -1) = false := by simp [hp]
    rw [hd]
    rw [if_neg hp] at HG
    clear hp hd mF e3
    have HS := Lib.hid (HM.out.below HBW.out).im.sc
    obtain ⟨g, o, c, c1, c2, c3, c4, c5⟩ := HS.out
    have mS : W1.cell? ⟨l.M, 19, none⟩ = some (.slice (some ⟨g, o, none⟩) s.scr.length c) := by rw [← c1]; exact (HM.out.below HBW.out).m.cell 19 _ rfl
    have C5 := Lib.hid c5
    have e2 := HE.out.cell 2 (.int .i64 x.ix) rfl
    clear c5 c1
    by_cases u1 : 0 ≤ x.pr
    · obtain ⟨p, hp⟩ : ∃ p : Nat, x.pr = (p : Int) := ⟨x.pr.toNat, by omega⟩
      generalize x.pr = pr at *
      subst hp
      rw [Int.toNat_natCast] at HG
      by_cases u2 : (p : Int) < (s.scr.length : Int)
      · obtain ⟨u, hu, g', o', c', k1, k2, k3, k4, k5⟩ := C5.out p (by omega)
        subst k1
        clear k5
        generalize s.scr.getD p [] = row at *
        have hnI : (s.scr.length : Int) ≤ 1000 := by omega
        by_cases u3 : 0 ≤ x.ix
        · go_wp2_with fail
          go_quiet (fail)
          go_wp2_with fail
          exact bodyPost_ret (v := .bool (decide (x.ix < (row.length : Int)))) (by simp [results, Tryz.results24, go_sem]) rfl ⟨by rw [HG.out]; exact congrArg (fun b => Ending.returned (.bool b)) (by by_cases q : x.ix < (row.length : Int) <;> simp [u2, u3, q]; all_goals omega), HBW.out.trans ((below_drewN (Below.refl _ _) nq).mono HBW.out.size)⟩
        · have d : decide (0 ≤ x.ix) = false := decide_eq_false u3
          replace u3 := Lib.hid u3
          go_wp2_with fail
          go_quiet (fail)
          go_wp2_with fail
          exact bodyPost_ret (v := .bool (false)) (by simp [results, Tryz.results24, go_sem]) rfl ⟨by rw [HG.out]; exact congrArg (fun b => Ending.returned (.bool b)) ((decide_eq_false (fun hh => by have h1 := u3.out; have h2 := hh.2.2.1; omega)).symm), HBW.out.trans ((below_drewN (Below.refl _ _) nq).mono HBW.out.size)⟩
      · have d : decide (p < s.scr.length) = false := decide_eq_false (by omega)
        replace u2 := Lib.hid u2
        go_wp2_with fail
        go_quiet (fail)
        go_wp2_with fail
        exact bodyPost_ret (v := .bool (false)) (by simp [results, Tryz.results24, go_sem]) rfl ⟨by rw [HG.out]; exact congrArg (fun b => Ending.returned (.bool b)) ((decide_eq_false (fun hh => by have h1 := u2.out; have h2 := hh.2.1; omega)).symm), HBW.out.trans ((below_drewN (Below.refl _ _) nq).mono HBW.out.size)⟩
    · have d : decide (0 ≤ x.pr) = false := decide_eq_false u1
      replace u1 := Lib.hid u1
      go_wp2_with fail
      go_quiet (fail)
      go_wp2_with fail
      exact bodyPost_ret (v := .bool (false)) (by simp [results, Tryz.results24, go_sem]) rfl ⟨by rw [HG.out]; exact congrArg (fun b => Ending.returned (.bool b)) ((decide_eq_false (fun hh => by have h1 := u1.out; have h2 := hh.1; omega)).symm), HBW.out.trans ((below_drewN (Below.refl _ _) nq).mono HBW.out.size)⟩
end Go.Proofs.YtimhaidiclbnhaaGreat.Ver
