/- Layer 46, shared texts of this seat, part 05. -/
import Derived.Test.YtimhaidiclbnhaaGreatM04
/- New, the document's too. -/
set_option maxRecDepth 100000
set_option linter.unusedSimpArgs false
set_option linter.unusedVariables false
namespace Go.Proofs.YtimhaidiclbnhaaGreat.Des
open Go.ChangeShapes Go.WideShapes Go.ChangeAt Go.RowKit

theorem alloc_size (W : World) (o : Obj) : (W.alloc o).heap.size = W.heap.size + 1 := by simp
/-- block b has something of x -/
def DBlk (x : Dv) (b : Nat) : Prop := (∃ q, x.oa = some q ∧ q.block = b) ∨ (∃ q, x.ta = some q ∧ q.block = b) ∨ ∃ y, y ∈ x.t ∧ ∃ q, y.a = some q ∧ q.block = b
/-- y may be read, and it lies where x lies or in new blocks -/
structure DAns (w : World) (x : Dv) (w' : World) (y : Dv) : Prop where
  di : DIn w' y
  blk : ∀ b, DBlk y b → DBlk x b ∨ w.heap.size ≤ b
theorem DOwn.blk {B : Nat} {W : World} {y : Dv} (h : DOwn B W y) {b : Nat} (hb : DBlk y b) : B ≤ b ∧ b < W.heap.size := by
  rcases hb with ⟨q, h1, h2⟩ | ⟨q, h1, h2⟩ | ⟨z, hz, q, h1, h2⟩
  · exact h.o.lt b (by rw [h1, ← h2]; rfl)
  · exact h.t.lt b (by rw [h1, ← h2]; rfl)
  · exact (h.e z hz).lt b (by unfold Tb.val; rw [h1, ← h2]; rfl)
theorem DOwn.ans {B : Nat} {w W : World} {x y : Dv} (h : DOwn B W y) (hB : w.heap.size ≤ B) : DAns w x W y := ⟨h.in, fun b hb => Or.inr (Nat.le_trans hB (h.blk hb).1)⟩
/-- descriptors d are answered, in the form f -/
def OutP (w : World) (x : Dv) (d : De) (f : Value → Value) (e : Ending) (w' : World) : Prop := ∃ y : Dv, e = .returned (f (dVal y)) ∧ y.pl = d ∧ DAns w x w' y ∧ Below w.heap.size w w'
def newD (p : Int) : De := if 1 ≤ p ∧ p ≤ 8 then ⟨[], List.replicate p.toNat (List.replicate 16 0)⟩ else ⟨[], []⟩
def newE (p : Int) : Int := if 1 ≤ p ∧ p ≤ 8 then 0 else 2

set_option maxHeartbeats 4000000 in
theorem new25_any (p : Int) (w : World) : Calls Tryz.prog 36 #[.int .i64 p] w (OutP w Dv.nil (newD p) (fun v => .tuple #[v, .int .i64 (newE p)])) := by
  have HP : Hid (∀ (y : Dv) w', y.pl = newD p → DAns w Dv.nil w' y → Below w.heap.size w w' → OutP w Dv.nil (newD p) (fun v => .tuple #[v, .int .i64 (newE p)]) (.returned (.tuple #[dVal y, .int .i64 (newE p)])) w') := fun y w' h1 h2 h3 => ⟨y, rfl, h1, h2, h3⟩
  have hr0 := (At.new w Z2 83)
  unfold Z2 at hr0
  by_cases hp : 1 ≤ p ∧ p ≤ 8
  · have hD : newD p = ⟨[], List.replicate p.toNat (List.replicate 16 0)⟩ := by unfold newD; rw [if_pos hp]
    have hE : newE p = 0 := by unfold newE; rw [if_pos hp]
    obtain ⟨n, rfl⟩ : ∃ n : Nat, p = (n : Int) := ⟨p.toNat, by omega⟩
    rw [hD, hE, Int.toNat_natCast] at HP
    rw [Int.toNat_natCast] at hD
    rw [hD, hE]
    obtain ⟨hp1, hp2⟩ := hp
    generalize OutP w Dv.nil ⟨[], List.replicate n (List.replicate 16 0)⟩ (fun v => .tuple #[v, .int .i64 0]) = Post at *
    clear hD hE
    have hW : Wk (w.heap.size + 1) ((w.alloc (Obj.cells #[.slice none 0 0, .slice none 0 0] 83)).alloc (Obj.cells #[.slice none 0 0, .slice none 0 0] 83)) (w.heap.size + 1) Dv.nil := by
      refine ⟨⟨⟨rfl, Or.inl ⟨rfl, rfl⟩⟩, ⟨rfl, Or.inl ⟨rfl, rfl⟩⟩, (fun y hy => by cases hy), List.Pairwise.nil⟩, ?_, Nat.le_refl _⟩
      have := Bx.new (w.alloc (Obj.cells #[.slice none 0 0, .slice none 0 0] 83)) Dv.nil
      rw [show (w.alloc (Obj.cells #[.slice none 0 0, .slice none 0 0] 83)).heap.size = w.heap.size + 1 from by simp] at this
      exact this
    have hR : At ((w.alloc (Obj.cells #[.slice none 0 0, .slice none 0 0] 83)).alloc (Obj.cells #[.slice none 0 0, .slice none 0 0] 83)) w.heap.size [.slice none 0 0, .slice none 0 0] := hr0.alloc _
    have hB : Below w.heap.size w ((w.alloc (Obj.cells #[.slice none 0 0, .slice none 0 0] 83)).alloc (Obj.cells #[.slice none 0 0, .slice none 0 0] 83)) := ((Below.refl _ w).alloc (Nat.le_refl _) _).alloc (by simp) _
    have HW := Lib.hid hW
    have HR := Lib.hid hR
    have HB := Lib.hid hB
    clear hW hR hB hr0
    go_enter Tryz.func36, Tryz.ntmps36
    go_wp2_with fail
    generalize ((w.alloc (Obj.cells #[.slice none 0 0, .slice none 0 0] 83)).alloc (Obj.cells #[.slice none 0 0, .slice none 0 0] 83)) = w0 at *
    go_loopw [13] (fun v wr => ∃ (k : Nat) (y : Dv), k ≤ n ∧ v = .int .i64 k ∧ Hid (y.o = [] ∧ y.t.map Tb.l = List.replicate k (List.replicate 16 0)) ∧ Hid (Wk (w.heap.size + 1) wr (w.heap.size + 1) y) ∧ Hid (At wr w.heap.size [.slice none 0 0, .slice none 0 0]) ∧ Hid (Below w.heap.size w wr)) (fun v _ => 100 - (intOf v).toNat)
    case atStart => exact ⟨0, Dv.nil, Nat.zero_le _, rfl, ⟨rfl, rfl⟩, HW, HR, HB⟩
    case round =>
      clear HW HR HB
      obtain ⟨k, y, hk, rfl, HY, HW, HR, HB⟩ := hrel
      obtain ⟨x0, x1, x2, x3, x4⟩ := HW.out.box.cc
      by_cases hlt : k < n
      · have hlt' : (k : Int) < (n : Int) := by omega
        have HYL : Hid (y.t.length = k) := by
          have := congrArg List.length HY.out.2
          rwa [List.length_map, List.length_replicate] at this
        have hmk : ∀ W : World, (Instr.makeSlice 22 (.int .i64 16) (.int .i64 16)).run Tryz.prog W = .ok (.slice (some ⟨W.heap.size, 0, none⟩) 16 16) (W.alloc (.cells (ints (List.replicate 16 0)).toArray 3)) := fun W => by
          have := make_run 16 (by omega) W
          rw [made_ints] at this
          exact this
        obtain ⟨Zc, hZc⟩ : ∃ Zc, Zc = (ints (List.replicate 16 0)).toArray := ⟨_, rfl⟩
        rw [← hZc] at hmk
        have hh3 : (wr.drew.alloc (Obj.cells Zc 3)).heap[wr.heap.size]? = some (.cells (ints (List.replicate 16 0)).toArray 3 (0, 0)) := by rw [← hZc]; exact Go.heap_alloc_new wr.drew _
        have hwlt : w.heap.size + 1 ≤ wr.heap.size := by have := HW.out.lo; omega
        have hown1 := own_whole (B := w.heap.size + 1) (n := 16) hh3 hwlt rfl (by omega)
        have hb3 : Below wr.heap.size wr (wr.drew.alloc (Obj.cells Zc 3)) := ((Below.refl _ wr).drew).alloc (Nat.le_refl _) _
        have hs3 : (wr.drew.alloc (Obj.cells Zc 3)).heap.size = wr.heap.size + 1 := alloc_size wr.drew _
        obtain ⟨w3, hw3⟩ : ∃ w3, w3 = wr.drew.alloc (Obj.cells Zc 3) := ⟨_, rfl⟩
        rw [← hw3] at hh3 hown1 hb3 hs3
        have hW3 : Wk (w.heap.size + 1) w3 (w.heap.size + 1) y := HW.out.below hb3
        obtain ⟨yn, hyn⟩ : ∃ yn : Tb, yn = ⟨some ⟨wr.heap.size, 0, none⟩, 16, List.replicate 16 0⟩ := ⟨_, rfl⟩
        have hb4 : Below w3.heap.size w3 (w3.alloc (Obj.cells #[Value.slice (some ⟨wr.heap.size, 0, none⟩) 16 16] 22)) := (Below.refl _ _).alloc (Nat.le_refl _) _
        have hc4 : (w3.alloc (Obj.cells #[Value.slice (some ⟨wr.heap.size, 0, none⟩) 16 16] 22)).cell? ⟨w3.heap.size, 0, none⟩ = some yn.val := by rw [hyn]; simp [Tb.val]
        have hW4k : Wk (w.heap.size + 1) (w3.alloc (Obj.cells #[Value.slice (some ⟨wr.heap.size, 0, none⟩) 16 16] 22)) (w.heap.size + 1) y := hW3.below hb4
        have hlt4 : w.heap.size + 1 ≤ (w3.alloc (Obj.cells #[Value.slice (some ⟨wr.heap.size, 0, none⟩) 16 16] 22)).heap.size := by have := hb4.size; omega
        obtain ⟨aN, cN, wN, hrun, hown, hbox, hbN⟩ := append_tab _ (w.heap.size + 1) (w.heap.size + 1) y yn w3.heap.size hW4k hc4 (by rw [hyn]; exact ownsRow_below hown1 hb4) (by
          intro z hz p q hp hq
          rw [hyn] at hq
          cases hq
          have h2 := (HW.out.own.e z hz).lt p.block (by unfold Tb.val; rw [hp]; rfl)
          show p.block ≠ wr.heap.size
          omega) (by have := HYL.out; omega) hlt4
        have HAP := Lib.hid hrun
        have HWN : Hid (Wk (w.heap.size + 1) (wN.setCell ⟨w.heap.size + 1, 1, none⟩ (.slice aN (y.t.length + 1) cN)) (w.heap.size + 1) ⟨y.oa, y.oc, y.o, aN, cN, y.t ++ [yn]⟩) := Wk.boxT hown hbox (Nat.le_refl _) (by simp)
        have hbW : Below (w.heap.size + 1) wr (wN.setCell ⟨w.heap.size + 1, 1, none⟩ (.slice aN (y.t.length + 1) cN)) := (((hb3.mono hwlt).trans (hb4.mono (by omega))).trans hbN).setCell (p := ⟨w.heap.size + 1, 1, none⟩) (Nat.le_refl _) _
        have HBN : Hid (Below w.heap.size w (wN.setCell ⟨w.heap.size + 1, 1, none⟩ (.slice aN (y.t.length + 1) cN))) := HB.out.trans (hbW.mono (Nat.le_succ _))
        have HRN : Hid (At (wN.setCell ⟨w.heap.size + 1, 1, none⟩ (.slice aN (y.t.length + 1) cN)) w.heap.size [.slice none 0 0, .slice none 0 0]) := HR.out.below hbW (Nat.lt_succ_self _)
        have HYN : Hid ((y.t ++ [yn]).map Tb.l = List.replicate (k + 1) (List.replicate 16 0)) := by
          rw [Hid, List.map_append, HY.out.2, List.replicate_succ' (n := k), hyn]; rfl
        obtain ⟨z0, z1, z2, z3, z4⟩ := hbox.cc
        obtain ⟨u0, u1, u2, u3, u4⟩ := hW3.box.cc
        clear hrun hown hbox hbN hown1 hW3 hW4k hc4 hb4 hb3 hh3 hbW hs3
        rw [hw3] at HAP u0 u1 u2 u3 u4
        rw [show (wr.drew.alloc (Obj.cells Zc 3)).heap.size = wr.heap.size + 1 from alloc_size wr.drew _] at HAP
        clear hw3 hZc
        have hx5 : w.heap.size < wr.heap.size := by omega
        go_wp2_with fail
        go_region_law (refine step_append_runI rfl (.tmp 16) (.tmp 18) 81 rfl (.slice y.ta y.t.length y.tc) (.slice (some ⟨wr.heap.size + 1, 0, none⟩) 1 1) (by simp [Act.eval, Act.put]) (by simp [Act.eval, Act.put]) HAP.out ?_)
        all_goals
          clear HAP
          go_wp2_with fail
          go_roundw
          case rel => exact ⟨k + 1, ⟨y.oa, y.oc, y.o, aN, cN, y.t ++ [yn]⟩, by omega, by go_num, ⟨HY.out.1, HYN.out⟩, HWN, HRN, HBN⟩
          case measure => simp [intOf]; omega
      · obtain rfl : k = n := by omega
        have hA := HR.out
        obtain ⟨r0, r1, r2, r3, r4⟩ := hA.two
        have hA5 := (hA.set 0 (.slice y.oa y.o.length y.oc)).set 1 (.slice y.ta y.t.length y.tc)
        have hneO : w.heap.size ≠ w.heap.size + 1 := by omega
        have tyR : ∀ q e size n v xs, wr.ownsRow (w.heap.size + 1) e size v n xs → v.ownBlock = some q → q ≠ w.heap.size := fun q e size n v xs h hq => by have := (h.lt q hq).1; omega
        have hD5 : DOwn w.heap.size ((wr.setCell ⟨w.heap.size, 0, none⟩ (.slice y.oa y.o.length y.oc)).setCell ⟨w.heap.size, 1, none⟩ (.slice y.ta y.t.length y.tc)) y := by
          have h0 := HW.out.own
          refine DOwn.mono (B := w.heap.size + 1) ⟨?_, ?_, fun z hz => ?_, h0.d⟩ (by omega)
          · exact own_apart (own_apart h0.o _ _ (fun q hq => tyR q _ _ _ _ _ h0.o hq)) _ _ (fun q hq => tyR q _ _ _ _ _ h0.o hq)
          · exact own_apart (own_apart h0.t _ _ (fun q hq => tyR q _ _ _ _ _ h0.t hq)) _ _ (fun q hq => tyR q _ _ _ _ _ h0.t hq)
          · exact own_apart (own_apart (h0.e z hz) _ _ (fun q hq => tyR q _ _ _ _ _ (h0.e z hz) hq)) _ _ (fun q hq => tyR q _ _ _ _ _ (h0.e z hz) hq)
        have hB5 : Below w.heap.size w ((wr.setCell ⟨w.heap.size, 0, none⟩ (.slice y.oa y.o.length y.oc)).setCell ⟨w.heap.size, 1, none⟩ (.slice y.ta y.t.length y.tc)) := (HB.out.setCell (p := ⟨w.heap.size, 0, none⟩) (Nat.le_refl _) _).setCell (p := ⟨w.heap.size, 1, none⟩) (Nat.le_refl _) _
        have HPo := Lib.hid (HP.out y _ (De.ext' HY.out.1 HY.out.2) (hD5.ans (Nat.le_refl _)) hB5)
        simp only [List.set_cons_zero, List.set_cons_succ] at hA5
        have e0 := hA5.cell 0 _ rfl
        have e1 := hA5.cell 1 _ rfl
        clear hD5 hB5 hA5 hA HW HP tyR HY
        unfold dVal at HPo
        go_wp2_with fail
        generalize ((wr.setCell ⟨w.heap.size, 0, none⟩ (.slice y.oa y.o.length y.oc)).setCell ⟨w.heap.size, 1, none⟩ (.slice y.ta y.t.length y.tc)) = w9 at *
        exact bodyPost_ret (v := .tuple #[.agg #[.slice y.oa y.o.length y.oc, .slice y.ta y.t.length y.tc], .int .i64 0]) (by simp [results, Tryz.results36, go_sem, e0, e1]) rfl HPo.out
  · have hD : newD p = ⟨[], []⟩ := by unfold newD; rw [if_neg hp]
    have hE : newE p = 2 := by unfold newE; rw [if_neg hp]
    rw [hD, hE] at HP
    rw [hD, hE]
    have HN := Lib.hid hp
    have e0 := hr0.cell 0 _ rfl
    have e1 := hr0.cell 1 _ rfl
    have HB : Hid (Below w.heap.size w (w.alloc (Obj.cells #[.slice none 0 0, .slice none 0 0] 83))) := (Below.refl _ w).alloc (Nat.le_refl _) _
    have HPo := Lib.hid (HP.out Dv.nil _ rfl ⟨DIn.nil _, fun b h => Or.inl h⟩ HB.out)
    clear hp hD hE hr0 HP HB
    unfold dVal Dv.nil at HPo
    simp only [List.length_nil] at HPo
    go_enter Tryz.func36, Tryz.ntmps36
    go_wp2_with fail
    all_goals first | (exfalso; have := HN.out; omega) | exact bodyPost_ret (v := .tuple #[.agg #[.slice none 0 0, .slice none 0 0], .int .i64 2]) (by simp [results, Tryz.results36, go_sem]) rfl HPo.out

end Go.Proofs.YtimhaidiclbnhaaGreat.Des
/- The frame of the calls that make descriptors: the parameter, the answer's variable, the copy. -/
set_option maxRecDepth 100000
set_option linter.unusedSimpArgs false
set_option linter.unusedVariables false
namespace Go.Proofs.YtimhaidiclbnhaaGreat.Des
open Go.ChangeShapes Go.WideShapes Go.ChangeAt Go.RowKit

/-- x came in (its variable is the first new block), R is the answer's variable, O has the copy y -/
structure Fr (w : World) (x : Dv) (W : World) (B R O : Nat) (y : Dv) : Prop where
  wk : Wk B W O y
  p0 : W.cell? ⟨w.heap.size, 0, none⟩ = some (.slice x.oa x.o.length x.oc)
  p1 : W.cell? ⟨w.heap.size, 1, none⟩ = some (.slice x.ta x.t.length x.tc)
  r : At W R [.slice none 0 0, .slice none 0 0]
  bel : Below w.heap.size w W
  hR : R < B
  hP : w.heap.size < R
theorem Fr.below {w W W' : World} {x y : Dv} {B R O : Nat} (h : Fr w x W B R O y) (hb : Below W.heap.size W W') : Fr w x W' B R O y :=
  ⟨h.wk.below hb, (hb.cell (p := ⟨w.heap.size, 0, none⟩) (World.block_lt_of_cell? _ _ h.p0)).trans h.p0, (hb.cell (p := ⟨w.heap.size, 1, none⟩) (World.block_lt_of_cell? _ _ h.p1)).trans h.p1, h.r.below hb h.r.hi, h.bel.trans (hb.mono h.bel.size), h.hR, h.hP⟩
/-- what turns blocks from B on only -/
theorem Fr.turn {w W W' : World} {x y y' : Dv} {B R O : Nat} (h : Fr w x W B R O y) (hb : Below B W W') (hk : Wk B W' O y') : Fr w x W' B R O y' :=
  ⟨hk, (hb.cell (p := ⟨w.heap.size, 0, none⟩) (Nat.lt_trans h.hP h.hR)).trans h.p0, (hb.cell (p := ⟨w.heap.size, 1, none⟩) (Nat.lt_trans h.hP h.hR)).trans h.p1, h.r.below hb h.hR, h.bel.trans (hb.mono (Nat.le_of_lt (Nat.lt_trans h.hP h.hR))), h.hR, h.hP⟩
theorem Fr.start {w W0 w1 : World} {x y : Dv} {B R : Nat} (h0 : W0.cell? ⟨w.heap.size, 0, none⟩ = some (.slice x.oa x.o.length x.oc)) (h1 : W0.cell? ⟨w.heap.size, 1, none⟩ = some (.slice x.ta x.t.length x.tc)) (hr : At W0 R [.slice none 0 0, .slice none 0 0])
    (hb0 : Below w.heap.size w W0) (hRB : R < B) (hPR : w.heap.size < R) (hB : B ≤ W0.heap.size) (hc : DOwn W0.heap.size w1 y) (hb : Below W0.heap.size W0 w1) :
    Fr w x (w1.alloc (Obj.cells #[.slice y.oa y.o.length y.oc, .slice y.ta y.t.length y.tc] 83)) B R w1.heap.size y := by
  have hb2 := hb.trans ((Below.refl w1.heap.size w1).alloc (Nat.le_refl _) (Obj.cells #[.slice y.oa y.o.length y.oc, .slice y.ta y.t.length y.tc] 83) |>.mono hb.size)
  refine ⟨⟨(hc.mono hB).below ((Below.refl w1.heap.size w1).alloc (Nat.le_refl _) _), Bx.new w1 y, Nat.le_trans hB hb.size⟩, ?_, ?_, hr.below hb2 hr.hi, hb0.trans (hb2.mono hb0.size), hRB, hPR⟩
  · exact (hb2.cell (p := ⟨w.heap.size, 0, none⟩) (World.block_lt_of_cell? _ _ h0)).trans h0
  · exact (hb2.cell (p := ⟨w.heap.size, 1, none⟩) (World.block_lt_of_cell? _ _ h1)).trans h1
/-- the answer is stored -/
theorem ret_ab {W : World} {R : Nat} {u0 u1 : Value} (h : At W R [u0, u1]) (a b : Value) : At ((W.setCell ⟨R, 0, none⟩ a).setCell ⟨R, 1, none⟩ b) R [a, b] := (h.set 0 a).set 1 b
theorem DOwn.far {B R : Nat} {W : World} {x : Dv} (h : DOwn B W x) (hR : R < B) (o : Nat) (v : Value) : DOwn B (W.setCell ⟨R, o, none⟩ v) x :=
  ⟨own_apart h.o _ _ (fun q hq => by have := (h.o.lt q hq).1; show q ≠ R; omega), own_apart h.t _ _ (fun q hq => by have := (h.t.lt q hq).1; show q ≠ R; omega), fun y hy => own_apart (h.e y hy) _ _ (fun q hq => by have := ((h.e y hy).lt q hq).1; show q ≠ R; omega), h.d⟩
theorem Fr.fin {w W : World} {x y : Dv} {B R O : Nat} (h : Fr w x W B R O y) :
    At ((W.setCell ⟨R, 0, none⟩ (.slice y.oa y.o.length y.oc)).setCell ⟨R, 1, none⟩ (.slice y.ta y.t.length y.tc)) R [.slice y.oa y.o.length y.oc, .slice y.ta y.t.length y.tc] ∧ DAns w x ((W.setCell ⟨R, 0, none⟩ (.slice y.oa y.o.length y.oc)).setCell ⟨R, 1, none⟩ (.slice y.ta y.t.length y.tc)) y ∧ Below w.heap.size w ((W.setCell ⟨R, 0, none⟩ (.slice y.oa y.o.length y.oc)).setCell ⟨R, 1, none⟩ (.slice y.ta y.t.length y.tc)) :=
  ⟨ret_ab h.r _ _, ((h.wk.own.far h.hR _ _).far h.hR _ _).ans (Nat.le_of_lt (Nat.lt_trans h.hP h.hR)), (h.bel.setCell (p := ⟨R, 0, none⟩) (Nat.le_of_lt h.hP) _).setCell (p := ⟨R, 1, none⟩) (Nat.le_of_lt h.hP) _⟩
/-- a table of one's own is read and written -/
theorem DOwn.tabAt {B : Nat} {W : World} {y : Dv} (h : DOwn B W y) (i : Nat) (hi : i < y.t.length) (h0 : 0 < (y.t.getD i Tb.nil).l.length) :
    ∃ g g2, y.ta = some ⟨g, 0, none⟩ ∧ (y.t.length : Int) ≤ y.tc ∧ (y.tc : Int) ≤ 9223372036854775807 ∧ (y.t.getD i Tb.nil).a = some ⟨g2, 0, none⟩ ∧ W.cell? ⟨g, i, none⟩ = some (.slice (some ⟨g2, 0, none⟩) (y.t.getD i Tb.nil).l.length (y.t.getD i Tb.nil).c) ∧ ((y.t.getD i Tb.nil).l.length : Int) ≤ (y.t.getD i Tb.nil).c ∧ ((y.t.getD i Tb.nil).c : Int) ≤ 9223372036854775807 ∧
      (∀ j, j < (y.t.getD i Tb.nil).l.length → W.cell? ⟨g2, j, none⟩ = some (.int .i64 ((y.t.getD i Tb.nil).l.getD j 0))) ∧ (∀ j, W.frozen? ⟨g2, j, none⟩ = false) ∧ B ≤ g2 ∧ g2 < W.heap.size ∧ g2 ≠ g := by
  obtain ⟨g, of, e1, e2, e3, e4, e5⟩ := h.in.row i hi
  have hz := own_zero h.t e1
  subst hz
  obtain ⟨g2, o2, f1, f2, f3, f4, _⟩ := h.in.num i hi 0 h0
  have hmem : y.t.getD i Tb.nil ∈ y.t := by rw [getD_get hi]; exact List.getElem_mem hi
  have hown := h.e _ hmem
  have hz2 := own_zero hown f1
  subst hz2
  have hown2 := hown
  unfold Tb.val at hown2
  rw [f1] at hown2
  have ho3 := h.t
  rw [e1] at ho3
  rw [f1, Nat.zero_add] at e5
  refine ⟨g, g2, e1, e3, e4, f1, e5, f3, f4, fun j hj => ?_, fun j => own_free hown2, (own_lt hown2).1, f2, ?_⟩
  · obtain ⟨g3, o3, k1, k2, k3, k4, k5⟩ := h.in.num i hi j hj
    have hz3 := own_zero hown k1
    subst hz3
    rw [f1] at k1
    cases k1
    rwa [Nat.zero_add] at k5
  · exact own_ne hown2 ho3 (by decide)
/-- a description of one's own is read and written -/
theorem DOwn.descAt {B : Nat} {W : World} {y : Dv} (h : DOwn B W y) (i : Nat) (hi : i < y.o.length) :
    ∃ g, y.oa = some ⟨g, 0, none⟩ ∧ (y.o.length : Int) ≤ y.oc ∧ (y.oc : Int) ≤ 9223372036854775807 ∧ DCel W g (i * 5) (y.o.getD i Dn.zero) ∧ (∀ j, W.frozen? ⟨g, j, none⟩ = false) ∧ B ≤ g ∧ g < W.heap.size := by
  obtain ⟨g, of, e1, e2, e3, e4, e5⟩ := h.in.desc i hi
  have hz := own_zero h.o e1
  subst hz
  have ho := h.o
  rw [e1] at ho
  refine ⟨g, e1, e3, e4, DCel.of (by rwa [Nat.zero_add] at e5), fun j => own_free ho, (own_lt ho).1, e2⟩
/-- sizes go by what descriptors are -/
structure ESz (d : De) : Prop where
  o : d.o.length ≤ 9000
  t : d.t.length ≤ 1000
  e : ∀ l ∈ d.t, l.length ≤ 10000
theorem ESz.sz {d : De} {x : Dv} (h : ESz d) (e : x.pl = d) : DSz x := by
  subst e
  exact ⟨Nat.le_trans h.o (by omega), by have := h.t; rwa [pl_t] at this, fun y hy => h.e _ (List.mem_map_of_mem hy)⟩
theorem check_sz {d : De} (h : checkV d = true) : ESz d := by
  have h1 := check_len h
  refine ⟨by omega, by omega, fun l hl => ?_⟩
  obtain ⟨i, hi, rfl⟩ := List.getElem_of_mem hl
  have := (check_tab h i hi).1
  rw [getD_get hi] at this
  omega
end Go.Proofs.YtimhaidiclbnhaaGreat.Des
/- slices.Index at numbers and at descriptions, slices.ContainsFunc, free. -/
set_option maxRecDepth 100000
set_option linter.unusedSimpArgs false
set_option linter.unusedVariables false
namespace Go.Proofs.YtimhaidiclbnhaaGreat.Des
open Go.ChangeShapes Go.WideShapes Go.ChangeAt Go.RowKit

/-- the first place at which f holds, or -1 -/
def fst {α : Type} (f : α → Bool) (l : List α) : Int := if l.findIdx f < l.length then (l.findIdx f : Int) else -1
theorem fst_hit {α : Type} {f : α → Bool} {l : List α} {d : α} {k : Nat} (hk : k < l.length) (h : ∀ j, j < k → f (l.getD j d) = false) (hf : f (l.getD k d) = true) : fst f l = k := by
  have e : l.findIdx f = k := by
    rw [List.findIdx_eq hk]
    refine ⟨by rw [← getD_get (d := d) hk]; exact hf, fun j hj => ?_⟩
    rw [← getD_get (d := d) (show j < l.length by omega)]
    exact h j hj
  unfold fst
  rw [e, if_pos hk]
theorem fst_miss {α : Type} {f : α → Bool} {l : List α} {d : α} (h : ∀ j, j < l.length → f (l.getD j d) = false) : fst f l = -1 := by
  have e : ¬ l.findIdx f < l.length := fun hh => by
    have h1 := List.findIdx_getElem (w := hh)
    have h2 := h _ hh
    rw [getD_get hh, h1] at h2
    cases h2
  unfold fst
  rw [if_neg e]
theorem fst_cases {α : Type} (f : α → Bool) (l : List α) (d : α) : (fst f l = -1 ∧ ∀ j, j < l.length → f (l.getD j d) = false) ∨ ∃ k : Nat, fst f l = k ∧ k < l.length ∧ f (l.getD k d) = true ∧ ∀ j, j < k → f (l.getD j d) = false := by
  unfold fst
  by_cases h : l.findIdx f < l.length
  · rw [if_pos h]
    refine Or.inr ⟨_, rfl, h, ?_, fun j hj => ?_⟩
    · rw [getD_get h]; exact List.findIdx_getElem (w := h)
    · rw [getD_get (show j < l.length by omega)]
      have := List.not_of_lt_findIdx hj
      simpa using this
  · rw [if_neg h]
    refine Or.inl ⟨rfl, fun j hj => ?_⟩
    rw [getD_get hj]
    have := List.not_of_lt_findIdx (show j < l.findIdx f by omega)
    simpa using this
def zeroB (z : Int) : Bool := decide (z = 0)
def noneB (a : Dn) : Bool := decide (a = Dn.zero)

set_option maxHeartbeats 4000000 in
theorem index_any (a : Option Addr) (c : Nat) (l : List Int) (w : World) (h : RowOf w a l.length c (ints l)) (hl : l.length ≤ 10000) :
    Calls Tryz.prog 120 #[.slice a l.length c, .int .i64 0] w (RetW (.int .i64 (fst zeroB l)) w) := by
  have HA : Hid (∀ W, Below w.heap.size w W → ∀ j, j < l.length → ∃ g o, a = some ⟨g, o, none⟩ ∧ (l.length : Int) ≤ c ∧ (c : Int) ≤ 9223372036854775807 ∧ W.cell? ⟨g, o + j, none⟩ = some (.int .i64 (l.getD j 0))) := by
    intro W hb j hj
    obtain ⟨g, o, h1, h2, h3, h4, h5⟩ := (h.below hb).at (by omega)
    exact ⟨g, o, h1, h3, h4, h5 j _ (ints_at _ j hj)⟩
  clear h
  go_enter Tryz.func120, Tryz.ntmps120
  go_wp2_with fail
  go_loopw [8] (fun v8 wr => ∃ k : Nat, k ≤ l.length ∧ v8 = .int .i64 k ∧ Hid (∀ j, j < k → zeroB (l.getD j 0) = false) ∧ Hid (Below w.heap.size w wr)) (fun v8 _ => 20000 - (intOf v8).toNat)
  case atStart => exact ⟨0, Nat.zero_le _, rfl, (fun j hj => absurd hj (Nat.not_lt_zero _)), Below.refl _ _⟩
  case round =>
    obtain ⟨k, hk, rfl, HT, HB⟩ := hrel
    by_cases hlt : k < l.length
    · have hlt' : (k : Int) < (l.length : Int) := by omega
      obtain ⟨g, o, rfl, h1, h2, h3⟩ := HA.out wr HB.out k hlt
      have HH : Hid (zeroB (l.getD k 0) = true → fst zeroB l = k) := fun hh => fst_hit (d := 0) hlt HT.out hh
      have HN : Hid (zeroB (l.getD k 0) = false → ∀ j, j < k + 1 → zeroB (l.getD j 0) = false) := fun hh j hj => by
        by_cases e : j = k
        · rw [e]; exact hh
        · exact HT.out j (by omega)
      generalize l.getD k 0 = z at *
      by_cases hz : z = 0
      · subst hz
        have HV := Lib.hid (HH.out rfl)
        go_wp2_with fail
        go_ret
        exact RetW.mk (by rw [HV.out]; try rfl) HB.out
      · have HV := Lib.hid (HN.out (decide_eq_false hz))
        have hz1 : (0 == z) = false := by simp; omega
        go_wp2_with fail
        go_roundw
        case rel => exact ⟨k + 1, by omega, by go_num, HV, HB⟩
        case measure => simp [intOf]; omega
    · obtain rfl : k = l.length := by omega
      have HV := Lib.hid (fst_miss (d := 0) HT.out)
      go_wp2_with fail
      go_ret
      exact RetW.mk (by rw [HV.out]; try rfl) HB.out

set_option maxHeartbeats 4000000 in
theorem indexD_any (a : Option Addr) (c : Nat) (l : List Dn) (w : World) (h : RowOf w a l.length c (oflat l)) (hl : l.length ≤ 10000) :
    Calls Tryz.prog 121 #[.slice a l.length c, .agg #[.int .i64 0, .int .i64 0, .int .i64 0, .int .i64 0, .int .i64 0]] w (RetW (.int .i64 (fst noneB l)) w) := by
  have HA : Hid (∀ W, Below w.heap.size w W → ∀ j, j < l.length → ∃ g o, a = some ⟨g, o, none⟩ ∧ (l.length : Int) ≤ c ∧ (c : Int) ≤ 9223372036854775807 ∧ DCel W g (o + j * 5) (l.getD j Dn.zero)) := by
    intro W hb j hj
    obtain ⟨g, o, h1, h2, h3, h4, h5⟩ := (h.below hb).at (by omega)
    refine ⟨g, o, h1, h3, h4, DCel.of fun i v hi => ?_⟩
    have hi5 : i < 5 := (List.getElem?_eq_some_iff.1 hi).1
    rw [Nat.add_assoc]
    exact h5 _ v (by rw [oflat_at _ _ hj _ hi5]; exact hi)
  clear h
  have HX0 : Hid (Below w.heap.size w (w.alloc (Obj.cells #[.int .i64 0, .int .i64 0, .int .i64 0, .int .i64 0, .int .i64 0] 126))) := (Below.refl _ _).alloc (Nat.le_refl _) _
  have hq := DCel.new w Dn.zero
  have HQ : Hid (∀ W, Below (w.heap.size + 1) (w.alloc (Obj.cells #[.int .i64 0, .int .i64 0, .int .i64 0, .int .i64 0, .int .i64 0] 126)) W → DCel W w.heap.size 0 Dn.zero) := fun W hb => hq.below hb (Nat.lt_succ_self _)
  clear hq
  go_enter Tryz.func121, Tryz.ntmps121
  go_wp2_with fail
  generalize w.alloc (Obj.cells #[.int .i64 0, .int .i64 0, .int .i64 0, .int .i64 0, .int .i64 0] 126) = w1 at *
  go_loopw [8] (fun v8 wr => ∃ k : Nat, k ≤ l.length ∧ v8 = .int .i64 k ∧ Hid (∀ j, j < k → noneB (l.getD j Dn.zero) = false) ∧ Hid (Below (w.heap.size + 1) w1 wr)) (fun v8 _ => 20000 - (intOf v8).toNat)
  case atStart => exact ⟨0, Nat.zero_le _, rfl, (fun j hj => absurd hj (Nat.not_lt_zero _)), Below.refl _ _⟩
  case round =>
    obtain ⟨k, hk, rfl, HT, HB⟩ := hrel
    have HBW := Lib.hid (HX0.out.trans (HB.out.mono (Nat.le_succ _)))
    by_cases hlt : k < l.length
    · have hlt' : (k : Int) < (l.length : Int) := by omega
      obtain ⟨g, o, rfl, h1, h2, h3⟩ := HA.out wr HBW.out k hlt
      have HH : Hid (noneB (l.getD k Dn.zero) = true → fst noneB l = k) := fun hh => fst_hit (d := Dn.zero) hlt HT.out hh
      have HN : Hid (noneB (l.getD k Dn.zero) = false → ∀ j, j < k + 1 → noneB (l.getD j Dn.zero) = false) := fun hh j hj => by
        by_cases e : j = k
        · rw [e]; exact hh
        · exact HT.out j (by omega)
      obtain ⟨q0, q1, q2, q3, q4⟩ := HQ.out wr HB.out
      simp only [Dn.zero, Nat.zero_add] at q0 q1 q2 q3 q4
      generalize l.getD k Dn.zero = e at *
      obtain ⟨fi, fl, f, cu, rf⟩ := e
      obtain ⟨k0, k1, k2, k3, k4⟩ := h3
      simp only at k0 k1 k2 k3 k4
      by_cases hz : fi = 0 ∧ fl = 0 ∧ f = 0 ∧ cu = 0 ∧ rf = 0
      · obtain ⟨rfl, rfl, rfl, rfl, rfl⟩ := hz
        have HV := Lib.hid (HH.out rfl)
        go_wp2_with fail
        go_quiet (fail)
        go_wp2_with fail
        go_ret
        exact RetW.mk (by rw [HV.out]; try rfl) (below_drewN HBW.out _)
      · have HV := Lib.hid (HN.out (decide_eq_false (fun e => hz (by cases e; exact ⟨rfl, rfl, rfl, rfl, rfl⟩))))
        by_cases hn0 : fi = 0
        rotate_left
        · have hm0 : ¬ 0 = fi := fun e => hn0 e.symm
          go_wp2_with fail
          go_quiet (fail)
          go_wp2_with fail
          go_roundw
          case rel => exact ⟨k + 1, by omega, by go_num, HV, below_drewN HB.out _⟩
          case measure => simp [intOf]; omega
        subst hn0
        by_cases hn1 : fl = 0
        rotate_left
        · have hm1 : ¬ 0 = fl := fun e => hn1 e.symm
          go_wp2_with fail
          go_quiet (fail)
          go_wp2_with fail
          go_roundw
          case rel => exact ⟨k + 1, by omega, by go_num, HV, below_drewN HB.out _⟩
          case measure => simp [intOf]; omega
        subst hn1
        by_cases hn2 : f = 0
        rotate_left
        · have hm2 : ¬ 0 = f := fun e => hn2 e.symm
          go_wp2_with fail
          go_quiet (fail)
          go_wp2_with fail
          go_roundw
          case rel => exact ⟨k + 1, by omega, by go_num, HV, below_drewN HB.out _⟩
          case measure => simp [intOf]; omega
        subst hn2
        by_cases hn3 : cu = 0
        rotate_left
        · have hm3 : ¬ 0 = cu := fun e => hn3 e.symm
          go_wp2_with fail
          go_quiet (fail)
          go_wp2_with fail
          go_roundw
          case rel => exact ⟨k + 1, by omega, by go_num, HV, below_drewN HB.out _⟩
          case measure => simp [intOf]; omega
        subst hn3
        have hn4 : ¬ rf = 0 := fun e => hz ⟨rfl, rfl, rfl, rfl, e⟩
        have hm4 : ¬ 0 = rf := fun e => hn4 e.symm
        clear hz
        go_wp2_with fail
        go_quiet (fail)
        go_wp2_with fail
        go_roundw
        case rel => exact ⟨k + 1, by omega, by go_num, HV, below_drewN HB.out _⟩
        case measure => simp [intOf]; omega
    · obtain rfl : k = l.length := by omega
      have HV := Lib.hid (fst_miss (d := Dn.zero) HT.out)
      go_wp2_with fail
      go_ret
      exact RetW.mk (by rw [HV.out]; try rfl) HBW.out

end Go.Proofs.YtimhaidiclbnhaaGreat.Des
