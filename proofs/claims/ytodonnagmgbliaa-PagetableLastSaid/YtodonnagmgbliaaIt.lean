/- The iterator over the entries of a frame. -/
import Derived.RangeFuncNested
import Derived.RangeFuncBound
import Derived.RangeFuncCalls
import Derived.RangeFuncLeaves
import Derived.Shelf.Abstract
import Derived.Shelf.RegionOpen
import Derived.OwnWalkIn
import Derived.TacticsInMore
import Derived.LoopNIn
import Derived.LoopIn
import Derived.Maps.AppendAt
import Derived.Test.YtodonnagmgbliaaRp
namespace Go.Proofs.Ytodonnagmgbliaa
open Go.ChangeShapes Go.WideShapes Go.ChangeAt Go.RowKit Go.Shelf
attribute [local go_sem] Oper.semAt_some

/-- a place of l at which an entry of frame f stands -/
structure Ent (l : List Ar) (f : Int) where
  ix : Nat
  lt : ix < l.length
  ok : frB f (l.getD ix Ar.zero) = true
def entsTo (l : List Ar) (f : Int) : Nat → List (Ent l f)
  | 0 => []
  | k + 1 => if h : k < l.length ∧ frB f (l.getD k Ar.zero) = true then entsTo l f k ++ [⟨k, h.1, h.2⟩] else entsTo l f k
def entsL (l : List Ar) (f : Int) : List (Ent l f) := if checkV l = true then entsTo l f l.length else []
theorem entsTo_hit {l : List Ar} {f : Int} {k : Nat} (h : k < l.length ∧ frB f (l.getD k Ar.zero) = true) : entsTo l f (k + 1) = entsTo l f k ++ [⟨k, h.1, h.2⟩] := dif_pos h
theorem entsTo_miss {l : List Ar} {f : Int} {k : Nat} (h : frB f (l.getD k Ar.zero) = false) : entsTo l f (k + 1) = entsTo l f k := dif_neg (fun hh => by rw [h] at hh; cases hh.2)
theorem entsTo_len (l : List Ar) (f : Int) (k : Nat) : (entsTo l f k).length ≤ k := by
  induction k with
  | zero => exact Nat.le_refl _
  | succ k ih =>
    unfold entsTo
    split
    · rw [List.length_append, List.length_singleton]; omega
    · omega
def Ent.get {l : List Ar} {f : Int} (x : Ent l f) : Ar := l.getD x.ix Ar.zero
theorem entsTo_map {l : List Ar} {f : Int} : ∀ k, k ≤ l.length → (entsTo l f k).map Ent.get = (l.take k).filter (frB f) := by
  intro k
  induction k with
  | zero => intro _; rfl
  | succ k ih =>
    intro hk
    have hlt : k < l.length := hk
    rw [take_succ_get hlt, List.filter_append, ← ih (by omega), List.filter_cons]
    cases hb : frB f (l.getD k Ar.zero) with
    | true =>
      rw [entsTo_hit ⟨hlt, hb⟩, List.map_append]
      rw [getD_get hlt] at hb
      rw [if_pos hb]
      congr 1
      show [l.getD k Ar.zero] = _
      rw [getD_get hlt]
      rfl
    | false =>
      rw [entsTo_miss hb]
      rw [getD_get hlt] at hb
      rw [if_neg (by rw [hb]; simp)]
      simp
def setAll {l : List Ar} {f : Int} (F : Ar → Ar) (pre : List (Ent l f)) : List Ar := pre.foldl (fun R x => R.set x.ix (F x.get)) l
theorem setAll_snoc {l : List Ar} {f : Int} (F : Ar → Ar) (pre : List (Ent l f)) (x : Ent l f) : setAll F (pre ++ [x]) = (setAll F pre).set x.ix (F x.get) := by simp [setAll]
theorem setAll_len {l : List Ar} {f : Int} (F : Ar → Ar) (pre : List (Ent l f)) : (setAll F pre).length = l.length := by
  unfold setAll
  suffices h : ∀ (q : List (Ent l f)) (R : List Ar), (q.foldl (fun R x => R.set x.ix (F x.get)) R).length = R.length from h pre l
  intro q
  induction q with
  | nil => intro R; rfl
  | cons x r ih => intro R; simp only [List.foldl_cons]; rw [ih, List.length_set]
theorem setAll_ents {l : List Ar} {f : Int} {F : Ar → Ar} (hF : ∀ x, frB f x = false → F x = x) : ∀ k, k ≤ l.length → setAll F (entsTo l f k) = updTo F l k := by
  intro k
  induction k with
  | zero => intro _; rw [updTo_zero]; rfl
  | succ k ih =>
    intro hk
    have hlt : k < l.length := hk
    cases hb : frB f (l.getD k Ar.zero) with
    | true =>
      rw [entsTo_hit ⟨hlt, hb⟩, setAll_snoc, ih (by omega)]
      exact updTo_set hlt
    | false => rw [entsTo_miss hb, ih (by omega), updTo_same hlt (hF _ hb)]
theorem entsTo_any {l : List Ar} {f : Int} : ∀ k, k ≤ l.length → (entsTo l f k).any (fun x => x.get.ac) = (l.take k).any (acB f) := by
  intro k
  induction k with
  | zero => intro _; rfl
  | succ k ih =>
    intro hk
    have hlt : k < l.length := hk
    rw [take_succ_get hlt, List.any_append, ← ih (by omega)]
    cases hb : frB f (l.getD k Ar.zero) with
    | true =>
      rw [entsTo_hit ⟨hlt, hb⟩, List.any_append]
      rw [getD_get hlt] at hb
      congr 1
      simp only [List.any_cons, List.any_nil, Bool.or_false, acB, hb, Bool.true_and, Ent.get, getD_get hlt]
    | false =>
      rw [entsTo_miss hb]
      rw [getD_get hlt] at hb
      simp [acB, hb]
theorem ents_of (l : List Ar) (f : Int) : (entsL l f).map Ent.get = ofL l f := by
  unfold entsL ofL
  split
  · rw [entsTo_map _ (Nat.le_refl _), List.take_length]
  · rfl
theorem ents_map (l : List Ar) (f : Int) (F : Ar → Ar) (hF : ∀ x, frB f x = false → F x = x) : setAll F (entsL l f) = mapL l F := by
  unfold entsL mapL
  split
  · rw [setAll_ents hF _ (Nat.le_refl _), updTo_all]
  · rfl
theorem ents_any (l : List Ar) (f : Int) : (entsL l f).any (fun x => x.get.ac) = youB l f := by
  unfold entsL youB
  cases checkV l with
  | true => rw [if_pos rfl, entsTo_any _ (Nat.le_refl _), List.take_length]; rfl
  | false => rfl
/-- the blocks of P have not changed -/
structure KeepP (P : Nat → Prop) (W W' : World) : Prop where
  size : W.heap.size ≤ W'.heap.size
  block : ∀ k, P k → k < W.heap.size → W'.heap[k]? = W.heap[k]?
theorem KeepP.refl (P : Nat → Prop) (W : World) : KeepP P W W := ⟨Nat.le_refl _, fun _ _ _ => rfl⟩
theorem KeepP.trans {P : Nat → Prop} {A B C : World} (h1 : KeepP P A B) (h2 : KeepP P B C) : KeepP P A C :=
  ⟨Nat.le_trans h1.size h2.size, fun k hk hl => (h2.block k hk (Nat.lt_of_lt_of_le hl h1.size)).trans (h1.block k hk hl)⟩
theorem KeepP.ofBelow {P : Nat → Prop} {W W' : World} (h : Below W.heap.size W W') : KeepP P W W' := ⟨h.size, fun k _ hl => h.block k hl⟩
theorem KeepP.ofBelowN {P : Nat → Prop} {W W' : World} {n : Nat} (h : Below n W W') (hP : ∀ k, P k → k < n) : KeepP P W W' := ⟨h.size, fun k hk _ => h.block k (hP k hk)⟩
theorem KeepP.cell {P : Nat → Prop} {W W' : World} (h : KeepP P W W') {b o : Nat} (hb : P b) (hl : b < W.heap.size) : W'.cell? ⟨b, o, none⟩ = W.cell? ⟨b, o, none⟩ := World.cell?_of_block (w := W) (a := ⟨b, o, none⟩) (h.block b hb hl)
theorem KeepP.row {P : Nat → Prop} {B cap : Nat} {b : Option Addr} {l : List Ar} {W W' : World} (h : KeepP P W W') (hr : ARow B b cap l W) (hP : ∀ g, b = some ⟨g, 0, none⟩ → P g) : ARow B b cap l W' := by
  rcases hr with hr | ⟨g, h1, h2, h3, h4, h5, h6⟩
  · exact Or.inl hr
  · exact Or.inr ⟨g, h1, h2, Nat.lt_of_lt_of_le h3 h.size, h4, h5, fun j hj => (h6 j hj).eq (fun i => h.cell (hP g h1) h3)⟩
theorem grownBy_below {W W' : World} (h : Below W.heap.size W W') : W.grownBy W' none := ⟨h.os, h.tape, h.output, h.size, fun k hk _ => h.block k hk⟩

theorem entries_in (n : Nat) (a : Option Addr) (len cap : Nat) (f : Int) (w : World) :
    CallsIn Fence.wide n Try.prog 38 #[.slice a len cap, .int .i64 f] w fun e w' => e = .returned (.func (.func 46) #[] #[.pointer (some ⟨w.heap.size, 0, none⟩), .pointer (some ⟨w.heap.size + 1, 0, none⟩)]) ∧ w' = (w.alloc (.cells #[.slice a len cap] 26)).alloc (.cells #[.int .i64 f] 3) := by
  refine callsIn_of_wp Try.func38 rfl trivial ?_ rfl
  simp only [Try.ntmps38, List.size_toArray, List.length_cons, List.length_nil, Nat.reduceAdd, Nat.reduceSub, Array.replicate_succ, Array.replicate_zero, List.push_toArray, List.append_toArray, List.nil_append, List.cons_append]
  gi_wp2
  go_ret
  exact ⟨rfl, rfl⟩

set_option maxRecDepth 100000 in
set_option maxHeartbeats 4000000 in
theorem entries1_in (n : Nat) (hn : 1 ≤ n) (lid Bs Bf B : Nat) (P : Nat → Prop) (b : Option Addr) (cap : Nat) (l : List Ar) (f : Int) (hl : l.length ≤ 100) (J Jx : List (Ent l f) → World → Prop) (W : World)
    (hs : W.cell? ⟨Bs, 0, none⟩ = some (.slice b l.length cap)) (hf : W.cell? ⟨Bf, 0, none⟩ = some (.int .i64 f)) (hr : ARow B b cap l W) (hPs : P Bs) (hPf : P Bf) (hPg : ∀ g, b = some ⟨g, 0, none⟩ → P g) (hJ : AbidesFrom W.heap.size J) (h0 : J [] W)
    (hY : ∀ pre x W1, J pre W1 → pre.length < l.length → YieldAt Fence.wide (n - 1) Try.prog lid #[.int .i64 (x.ix : Int), arVal x.get] W1 fun e W' => (e = .returned (.bool true) ∧ J (pre ++ [x]) W' ∧ KeepP P W1 W') ∨ (e = .returned (.bool false) ∧ Jx (pre ++ [x]) W')) :
    CallsIn Fence.wide n Try.prog 46 #[.func (.yield lid) #[] #[], .pointer (some ⟨Bs, 0, none⟩), .pointer (some ⟨Bf, 0, none⟩)] W fun e W' => (∃ v, e = .returned v) ∧ ((∃ ys, ys = entsL l f ∧ J ys W') ∨ (∃ pre, True ∧ Jx pre W')) := by
  have hBs : Bs < W.heap.size := World.block_lt_of_cell? _ _ hs
  have hBf : Bf < W.heap.size := World.block_lt_of_cell? _ _ hf
  have HCK := Lib.hid (callsIn_wide (n := n - 1) |>.2 (check_any B b l cap W hr hl))
  refine callsIn_of_wp Try.func46 rfl trivial ?_ rfl
  simp only [Try.ntmps46, List.size_toArray, List.length_cons, List.length_nil, Nat.reduceAdd, Nat.reduceSub, Array.replicate_succ, Array.replicate_zero, List.push_toArray, List.append_toArray, List.nil_append, List.cons_append]
  have HY := Lib.hid hY
  have HJ := Lib.hid hJ
  have HR := Lib.hid hr
  have HP := Lib.hid hPg
  have HL : Hid (checkV l = true → entsL l f = entsTo l f l.length) := fun h => by unfold entsL; rw [if_pos h]
  have HL2 : Hid (checkV l = false → entsL l f = []) := fun h => by unfold entsL; rw [h]; rfl
  clear hY hJ hr hPg
  gi_wp2
  refine ⟨trivial, HCK.out.mono ?_⟩
  rintro e w1 ⟨rfl, hb⟩
  have hs1 := (hb.cell (p := ⟨Bs, 0, none⟩) hBs).trans hs
  have hf1 := (hb.cell (p := ⟨Bf, 0, none⟩) hBf).trans hf
  have HJ1 : Hid (J [] w1) := HJ.out [] W w1 none h0 (grownBy_below hb) (by simp)
  have HK1 : Hid (KeepP P W w1) := KeepP.ofBelow hb
  clear hb h0 hs HCK
  cases hcv : checkV l with
  | false =>
    have HE := Lib.hid (HL2.out hcv)
    clear HL HL2 hcv
    gi_wp2
    refine bodyPost_ret (results_none rfl _ _ _) rfl ?_
    exact ⟨⟨_, rfl⟩, .inl ⟨_, HE.out.symm, HJ1.out⟩⟩
  | true =>
    have HE := Lib.hid (HL.out hcv)
    clear HL HL2 hcv
    gi_wp2
    gi_loopw [11] (fun i wr => ∃ k : Nat, k ≤ l.length ∧ i = .int .i64 k ∧ Hid (J (entsTo l f k) wr) ∧ Hid (KeepP P W wr)) (fun i _ => 200 - (intOf i).toNat)
    case atStart => exact ⟨0, Nat.zero_le _, rfl, HJ1, HK1⟩
    case round =>
      clear HJ1 HK1 hs1 hf1
      obtain ⟨k, hk, rfl, HJk, HK⟩ := hrel
      have hfk := (HK.out.cell (o := 0) hPf hBf).trans hf
      by_cases hlt : k < l.length
      · have hlt' : (k : Int) < (l.length : Int) := by omega
        obtain ⟨g, rfl, _, hg, hcp, _, hcl⟩ := (HK.out.row HR.out HP.out).at (by omega)
        have hcap : (l.length : Int) ≤ cap := by omega
        have hcel := hcl k hlt
        have hfn : Bf < wr.heap.size := Nat.lt_of_lt_of_le hBf HK.out.size
        have HMIS := Lib.hid (@entsTo_miss l f k)
        have hln := entsTo_len l f k
        clear hcl HR HP
        obtain ⟨e, hle⟩ : ∃ e, l.getD k Ar.zero = e := ⟨_, rfl⟩
        rw [hle] at hcel HMIS
        have HLE := Lib.hid hle
        clear hle
        obtain ⟨s, c, fr, p, q⟩ := e
        obtain ⟨k0, k1, k2, k3, k4⟩ := hcel
        simp only at k0 k1 k2 k3 k4
        have hJ2 := HJ.out _ wr _ none HJk.out (World.grownBy_alloc wr (Obj.cells #[Value.int IntKind.i64 s, Value.int IntKind.i64 c, Value.int IntKind.i64 fr, Value.bool p, Value.bool q] 30) none) (by simp)
        have HK2 : Hid (KeepP P W (wr.alloc (Obj.cells #[Value.int IntKind.i64 s, Value.int IntKind.i64 c, Value.int IntKind.i64 fr, Value.bool p, Value.bool q] 30))) := HK.out.trans (KeepP.ofBelow ((Below.refl _ wr).alloc (Nat.le_refl _) _))
        have hbl := Blk.new wr s c fr p q
        have hfa : (wr.alloc (Obj.cells #[Value.int IntKind.i64 s, Value.int IntKind.i64 c, Value.int IntKind.i64 fr, Value.bool p, Value.bool q] 30)).cell? ⟨Bf, 0, none⟩ = some (.int .i64 f) := by rw [← hfk]; exact World.cell?_alloc_lt _ _ _ hfn
        by_cases hfe : fr = f
        · have HFR : Hid (frB f (l.getD k Ar.zero) = true) := by unfold Hid; rw [HLE.out]; exact decide_eq_true hfe
          have HH := Lib.hid (@entsTo_hit l f k ⟨hlt, HFR.out⟩)
          obtain ⟨fn, tmps, assign, body, hy, hR⟩ := HY.out _ (Ent.mk k hlt HFR.out : Ent l f) _ hJ2 (by omega)
          have hR2 := Lib.hid hR
          have hg9 : (Ent.mk k hlt HFR.out : Ent l f).get = ⟨s, c, fr, p, q⟩ := HLE.out
          rw [hg9] at hy
          clear hR HMIS HY hg9
          unfold arVal at hy
          dsimp only at hy
          have HE3 := Lib.hid hfe
          have hfe3 : (fr == f) = true := by simpa using hfe
          clear hfe
          gi_wp2
          refine hR2.out.mono ?_
          rintro e W3 (⟨rfl, hJ3, hk3⟩ | ⟨rfl, hJx3⟩)
          · have HJ3 := Lib.hid hJ3
            rw [← HH.out] at HJ3
            have HK3 := Lib.hid (HK2.out.trans hk3)
            clear hJ3 hk3 hR2
            gi_wp2
            go_roundw
            case rel => exact ⟨k + 1, by omega, by go_num, HJ3, HK3⟩
            case measure => simp [intOf]; omega
          · clear hR2
            gi_wp2
            refine bodyPost_ret (results_none rfl _ _ _) rfl ?_
            exact ⟨⟨_, rfl⟩, .inr ⟨_, trivial, hJx3⟩⟩
        · have HM2 : Hid (J (entsTo l f (k + 1)) (wr.alloc (Obj.cells #[Value.int IntKind.i64 s, Value.int IntKind.i64 c, Value.int IntKind.i64 fr, Value.bool p, Value.bool q] 30))) := by unfold Hid; rw [HMIS.out (decide_eq_false hfe)]; exact hJ2
          have hfe2 : (fr == f) = false := by simpa using hfe
          clear HMIS HY hJ2
          gi_wp2
          refine ⟨fun _ h => (by cases h), ?_⟩
          gi_wp2
          go_roundw
          case rel => exact ⟨k + 1, by omega, by go_num, HM2, HK2⟩
          case measure => simp [intOf]; omega
      · obtain rfl : k = l.length := by omega
        gi_wp2
        go_end0
        exact ⟨⟨_, rfl⟩, .inl ⟨_, HE.out.symm, HJk.out⟩⟩

/-- the iterator's contract -/
theorem entries_stops (n : Nat) (hn : 1 ≤ n) (Bs Bf B : Nat) (P : Nat → Prop) (b : Option Addr) (cap : Nat) (l : List Ar) (f : Int) (hl : l.length ≤ 100) (w : World)
    (hs : w.cell? ⟨Bs, 0, none⟩ = some (.slice b l.length cap)) (hf : w.cell? ⟨Bf, 0, none⟩ = some (.int .i64 f)) (hr : ARow B b cap l w) (hPs : P Bs) (hPf : P Bf) (hPg : ∀ g, b = some ⟨g, 0, none⟩ → P g) :
    SeqStopsK Fence.wide n Try.prog 46 #[.pointer (some ⟨Bs, 0, none⟩), .pointer (some ⟨Bf, 0, none⟩)] (fun x : Ent l f => #[Value.int .i64 (x.ix : Int), arVal x.get]) (KeepP P) (fun ys => ys = entsL l f) (fun _ => True) l.length w := fun lid J Jx W hW hJ _ hY h0 =>
  entries1_in n hn lid Bs Bf B P b cap l f hl J Jx W ((hW.cell (p := ⟨Bs, 0, none⟩) (World.block_lt_of_cell? _ _ hs)).trans hs) ((hW.cell (p := ⟨Bf, 0, none⟩) (World.block_lt_of_cell? _ _ hf)).trans hf) (hr.below hW) hPs hPf hPg hJ h0 hY
theorem keepP_b {P : Nat → Prop} {w : World} (hP : ∀ k, P k → k < w.heap.size) : ∀ (W : World) (l : Nat) (o o' : Obj), w.heap.size ≤ l → W.heap[l]? = some o → o.isCells = false → o.isWalk = false → KeepP P W (W.putObj l o') :=
  fun W l o o' hl _ _ _ => ⟨by simp, fun k hk _ => World.putObj_heap_other (fun e => by have := hP k hk; omega)⟩
end Go.Proofs.Ytodonnagmgbliaa
