/- New, the document's too. -/
import Derived.Test.YtflcbefomjlgmaaCp
set_option linter.unusedSimpArgs false
set_option linter.unusedVariables false
namespace Go.Proofs.Ytflcbefomjlgmaa
open Go.ChangeShapes Go.WideShapes Go.ChangeAt Go.RowKit

theorem alloc_size (W : World) (o : Obj) : (W.alloc o).heap.size = W.heap.size + 1 := by simp
/-- block b has something of x -/
def DBlk (x : Dv) (b : Nat) : Prop := (∃ q, x.oa = some q ∧ q.block = b) ∨ (∃ q, x.ta = some q ∧ q.block = b) ∨ ∃ y, y ∈ x.t ∧ ∃ q, y.a = some q ∧ q.block = b
/-- y may be read, and it lies where x lies or in new blocks -/
structure DAns (w : World) (x : Dv) (w' : World) (y : Dv) : Prop where
  di : DIn w' y
  blk : ∀ b, DBlk y b → DBlk x b ∨ w.heap.size ≤ b
theorem DOwn.blk {B : Nat} {W : World} {y : Dv} (h : DOwn B W y) {b : Nat} (hb : DBlk y b) : B ≤ b ∧ b < W.heap.size := by
  rcases hb with ⟨q, h1, h2⟩ | ⟨q, h1, h2⟩ | ⟨z, hz, q, h1, h2⟩
  · exact h.o.lt b (by rw [h1, ← h2]; rfl)
  · exact h.t.lt b (by rw [h1, ← h2]; rfl)
  · exact (h.e z hz).lt b (by unfold Tb.val; rw [h1, ← h2]; rfl)
theorem DOwn.ans {B : Nat} {w W : World} {x y : Dv} (h : DOwn B W y) (hB : w.heap.size ≤ B) : DAns w x W y := ⟨h.in, fun b hb => Or.inr (Nat.le_trans hB (h.blk hb).1)⟩
/-- descriptors d are answered, in the form f -/
def OutP (w : World) (x : Dv) (d : De) (f : Value → Value) (e : Ending) (w' : World) : Prop := ∃ y : Dv, e = .returned (f (dVal y)) ∧ y.pl = d ∧ DAns w x w' y ∧ Below w.heap.size w w'
def newD (p : Int) : De := if 1 ≤ p ∧ p ≤ 8 then ⟨[], List.replicate p.toNat (List.replicate 16 0)⟩ else ⟨[], []⟩
def newE (p : Int) : Int := if 1 ≤ p ∧ p ≤ 8 then 0 else 2

set_option maxHeartbeats 4000000 in
theorem new25_any (p : Int) (w : World) : Calls Try.prog 25 #[.int .i64 p] w (OutP w Dv.nil (newD p) (fun v => .tuple #[v, .int .i64 (newE p)])) := by
  have HP : Hid (∀ (y : Dv) w', y.pl = newD p → DAns w Dv.nil w' y → Below w.heap.size w w' → OutP w Dv.nil (newD p) (fun v => .tuple #[v, .int .i64 (newE p)]) (.returned (.tuple #[dVal y, .int .i64 (newE p)])) w') := fun y w' h1 h2 h3 => ⟨y, rfl, h1, h2, h3⟩
  have hr0 := (At.new w Z2 29)
  unfold Z2 at hr0
  by_cases hp : 1 ≤ p ∧ p ≤ 8
  · have hD : newD p = ⟨[], List.replicate p.toNat (List.replicate 16 0)⟩ := by unfold newD; rw [if_pos hp]
    have hE : newE p = 0 := by unfold newE; rw [if_pos hp]
    obtain ⟨n, rfl⟩ : ∃ n : Nat, p = (n : Int) := ⟨p.toNat, by omega⟩
    rw [hD, hE, Int.toNat_natCast] at HP
    rw [Int.toNat_natCast] at hD
    rw [hD, hE]
    obtain ⟨hp1, hp2⟩ := hp
    generalize OutP w Dv.nil ⟨[], List.replicate n (List.replicate 16 0)⟩ (fun v => .tuple #[v, .int .i64 0]) = Post at *
    clear hD hE
    have hW : Wk (w.heap.size + 1) ((w.alloc (Obj.cells #[.slice none 0 0, .slice none 0 0] 29)).alloc (Obj.cells #[.slice none 0 0, .slice none 0 0] 29)) (w.heap.size + 1) Dv.nil := by
      refine ⟨⟨⟨rfl, Or.inl ⟨rfl, rfl⟩⟩, ⟨rfl, Or.inl ⟨rfl, rfl⟩⟩, (fun y hy => by cases hy), List.Pairwise.nil⟩, ?_, Nat.le_refl _⟩
      have := Bx.new (w.alloc (Obj.cells #[.slice none 0 0, .slice none 0 0] 29)) Dv.nil
      rw [show (w.alloc (Obj.cells #[.slice none 0 0, .slice none 0 0] 29)).heap.size = w.heap.size + 1 from by simp] at this
      exact this
    have hR : At ((w.alloc (Obj.cells #[.slice none 0 0, .slice none 0 0] 29)).alloc (Obj.cells #[.slice none 0 0, .slice none 0 0] 29)) w.heap.size [.slice none 0 0, .slice none 0 0] := hr0.alloc _
    have hB : Below w.heap.size w ((w.alloc (Obj.cells #[.slice none 0 0, .slice none 0 0] 29)).alloc (Obj.cells #[.slice none 0 0, .slice none 0 0] 29)) := ((Below.refl _ w).alloc (Nat.le_refl _) _).alloc (by simp) _
    have HW := Lib.hid hW
    have HR := Lib.hid hR
    have HB := Lib.hid hB
    clear hW hR hB hr0
    go_enter Try.func25, Try.ntmps25
    go_wp2_with fail
    generalize ((w.alloc (Obj.cells #[.slice none 0 0, .slice none 0 0] 29)).alloc (Obj.cells #[.slice none 0 0, .slice none 0 0] 29)) = w0 at *
    go_loopw [13] (fun v wr => ∃ (k : Nat) (y : Dv), k ≤ n ∧ v = .int .i64 k ∧ Hid (y.o = [] ∧ y.t.map Tb.l = List.replicate k (List.replicate 16 0)) ∧ Hid (Wk (w.heap.size + 1) wr (w.heap.size + 1) y) ∧ Hid (At wr w.heap.size [.slice none 0 0, .slice none 0 0]) ∧ Hid (Below w.heap.size w wr)) (fun v _ => 100 - (intOf v).toNat)
    case atStart => exact ⟨0, Dv.nil, Nat.zero_le _, rfl, ⟨rfl, rfl⟩, HW, HR, HB⟩
    case round =>
      clear HW HR HB
      obtain ⟨k, y, hk, rfl, HY, HW, HR, HB⟩ := hrel
      obtain ⟨x0, x1, x2, x3, x4⟩ := HW.out.box.cc
      by_cases hlt : k < n
      · have hlt' : (k : Int) < (n : Int) := by omega
        have HYL : Hid (y.t.length = k) := by
          have := congrArg List.length HY.out.2
          rwa [List.length_map, List.length_replicate] at this
        have hmk : ∀ W : World, (Instr.makeSlice 22 (.int .i64 16) (.int .i64 16)).run Try.prog W = .ok (.slice (some ⟨W.heap.size, 0, none⟩) 16 16) (W.alloc (.cells (ints (List.replicate 16 0)).toArray 3)) := fun W => by
          have := make_run 16 (by omega) W
          rw [made_ints] at this
          exact this
        obtain ⟨Zc, hZc⟩ : ∃ Zc, Zc = (ints (List.replicate 16 0)).toArray := ⟨_, rfl⟩
        rw [← hZc] at hmk
        have hh3 : (wr.drew.alloc (Obj.cells Zc 3)).heap[wr.heap.size]? = some (.cells (ints (List.replicate 16 0)).toArray 3 (0, 0)) := by rw [← hZc]; exact Go.heap_alloc_new wr.drew _
        have hwlt : w.heap.size + 1 ≤ wr.heap.size := by have := HW.out.lo; omega
        have hown1 := own_whole (B := w.heap.size + 1) (n := 16) hh3 hwlt rfl (by omega)
        have hb3 : Below wr.heap.size wr (wr.drew.alloc (Obj.cells Zc 3)) := ((Below.refl _ wr).drew).alloc (Nat.le_refl _) _
        have hs3 : (wr.drew.alloc (Obj.cells Zc 3)).heap.size = wr.heap.size + 1 := alloc_size wr.drew _
        obtain ⟨w3, hw3⟩ : ∃ w3, w3 = wr.drew.alloc (Obj.cells Zc 3) := ⟨_, rfl⟩
        rw [← hw3] at hh3 hown1 hb3 hs3
        have hW3 : Wk (w.heap.size + 1) w3 (w.heap.size + 1) y := HW.out.below hb3
        obtain ⟨yn, hyn⟩ : ∃ yn : Tb, yn = ⟨some ⟨wr.heap.size, 0, none⟩, 16, List.replicate 16 0⟩ := ⟨_, rfl⟩
        have hb4 : Below w3.heap.size w3 (w3.alloc (Obj.cells #[Value.slice (some ⟨wr.heap.size, 0, none⟩) 16 16] 22)) := (Below.refl _ _).alloc (Nat.le_refl _) _
        have hc4 : (w3.alloc (Obj.cells #[Value.slice (some ⟨wr.heap.size, 0, none⟩) 16 16] 22)).cell? ⟨w3.heap.size, 0, none⟩ = some yn.val := by rw [hyn]; simp [Tb.val]
        have hW4k : Wk (w.heap.size + 1) (w3.alloc (Obj.cells #[Value.slice (some ⟨wr.heap.size, 0, none⟩) 16 16] 22)) (w.heap.size + 1) y := hW3.below hb4
        have hlt4 : w.heap.size + 1 ≤ (w3.alloc (Obj.cells #[Value.slice (some ⟨wr.heap.size, 0, none⟩) 16 16] 22)).heap.size := by have := hb4.size; omega
        obtain ⟨aN, cN, wN, hrun, hown, hbox, hbN⟩ := append_tab _ (w.heap.size + 1) (w.heap.size + 1) y yn w3.heap.size hW4k hc4 (by rw [hyn]; exact ownsRow_below hown1 hb4) (by
          intro z hz p q hp hq
          rw [hyn] at hq
          cases hq
          have h2 := (HW.out.own.e z hz).lt p.block (by unfold Tb.val; rw [hp]; rfl)
          show p.block ≠ wr.heap.size
          omega) (by have := HYL.out; omega) hlt4
        have HAP := Lib.hid hrun
        have HWN : Hid (Wk (w.heap.size + 1) (wN.setCell ⟨w.heap.size + 1, 1, none⟩ (.slice aN (y.t.length + 1) cN)) (w.heap.size + 1) ⟨y.oa, y.oc, y.o, aN, cN, y.t ++ [yn]⟩) := Wk.boxT hown hbox (Nat.le_refl _) (by simp)
        have hbW : Below (w.heap.size + 1) wr (wN.setCell ⟨w.heap.size + 1, 1, none⟩ (.slice aN (y.t.length + 1) cN)) := (((hb3.mono hwlt).trans (hb4.mono (by omega))).trans hbN).setCell (p := ⟨w.heap.size + 1, 1, none⟩) (Nat.le_refl _) _
        have HBN : Hid (Below w.heap.size w (wN.setCell ⟨w.heap.size + 1, 1, none⟩ (.slice aN (y.t.length + 1) cN))) := HB.out.trans (hbW.mono (Nat.le_succ _))
        have HRN : Hid (At (wN.setCell ⟨w.heap.size + 1, 1, none⟩ (.slice aN (y.t.length + 1) cN)) w.heap.size [.slice none 0 0, .slice none 0 0]) := HR.out.below hbW (Nat.lt_succ_self _)
        have HYN : Hid ((y.t ++ [yn]).map Tb.l = List.replicate (k + 1) (List.replicate 16 0)) := by
          rw [Hid, List.map_append, HY.out.2, List.replicate_succ' (n := k), hyn]; rfl
        obtain ⟨z0, z1, z2, z3, z4⟩ := hbox.cc
        obtain ⟨u0, u1, u2, u3, u4⟩ := hW3.box.cc
        clear hrun hown hbox hbN hown1 hW3 hW4k hc4 hb4 hb3 hh3 hbW hs3
        rw [hw3] at HAP u0 u1 u2 u3 u4
        rw [show (wr.drew.alloc (Obj.cells Zc 3)).heap.size = wr.heap.size + 1 from alloc_size wr.drew _] at HAP
        clear hw3 hZc
        have hx5 : w.heap.size < wr.heap.size := by omega
        go_wp2_with fail
        go_region_law (refine step_append_runI rfl (.tmp 16) (.tmp 18) 27 rfl (.slice y.ta y.t.length y.tc) (.slice (some ⟨wr.heap.size + 1, 0, none⟩) 1 1) (by simp [Act.eval, Act.put]) (by simp [Act.eval, Act.put]) HAP.out ?_)
        all_goals
          clear HAP
          go_wp2_with fail
          go_roundw
          case rel => exact ⟨k + 1, ⟨y.oa, y.oc, y.o, aN, cN, y.t ++ [yn]⟩, by omega, by go_num, ⟨HY.out.1, HYN.out⟩, HWN, HRN, HBN⟩
          case measure => simp [intOf]; omega
      · obtain rfl : k = n := by omega
        have hA := HR.out
        obtain ⟨r0, r1, r2, r3, r4⟩ := hA.two
        have hA5 := (hA.set 0 (.slice y.oa y.o.length y.oc)).set 1 (.slice y.ta y.t.length y.tc)
        have hneO : w.heap.size ≠ w.heap.size + 1 := by omega
        have tyR : ∀ q e size n v xs, wr.ownsRow (w.heap.size + 1) e size v n xs → v.ownBlock = some q → q ≠ w.heap.size := fun q e size n v xs h hq => by have := (h.lt q hq).1; omega
        have hD5 : DOwn w.heap.size ((wr.setCell ⟨w.heap.size, 0, none⟩ (.slice y.oa y.o.length y.oc)).setCell ⟨w.heap.size, 1, none⟩ (.slice y.ta y.t.length y.tc)) y := by
          have h0 := HW.out.own
          refine DOwn.mono (B := w.heap.size + 1) ⟨?_, ?_, fun z hz => ?_, h0.d⟩ (by omega)
          · exact own_apart (own_apart h0.o _ _ (fun q hq => tyR q _ _ _ _ _ h0.o hq)) _ _ (fun q hq => tyR q _ _ _ _ _ h0.o hq)
          · exact own_apart (own_apart h0.t _ _ (fun q hq => tyR q _ _ _ _ _ h0.t hq)) _ _ (fun q hq => tyR q _ _ _ _ _ h0.t hq)
          · exact own_apart (own_apart (h0.e z hz) _ _ (fun q hq => tyR q _ _ _ _ _ (h0.e z hz) hq)) _ _ (fun q hq => tyR q _ _ _ _ _ (h0.e z hz) hq)
        have hB5 : Below w.heap.size w ((wr.setCell ⟨w.heap.size, 0, none⟩ (.slice y.oa y.o.length y.oc)).setCell ⟨w.heap.size, 1, none⟩ (.slice y.ta y.t.length y.tc)) := (HB.out.setCell (p := ⟨w.heap.size, 0, none⟩) (Nat.le_refl _) _).setCell (p := ⟨w.heap.size, 1, none⟩) (Nat.le_refl _) _
        have HPo := Lib.hid (HP.out y _ (De.ext' HY.out.1 HY.out.2) (hD5.ans (Nat.le_refl _)) hB5)
        simp only [List.set_cons_zero, List.set_cons_succ] at hA5
        have e0 := hA5.cell 0 _ rfl
        have e1 := hA5.cell 1 _ rfl
        clear hD5 hB5 hA5 hA HW HP tyR HY
        unfold dVal at HPo
        go_wp2_with fail
        generalize ((wr.setCell ⟨w.heap.size, 0, none⟩ (.slice y.oa y.o.length y.oc)).setCell ⟨w.heap.size, 1, none⟩ (.slice y.ta y.t.length y.tc)) = w9 at *
        exact bodyPost_ret (v := .tuple #[.agg #[.slice y.oa y.o.length y.oc, .slice y.ta y.t.length y.tc], .int .i64 0]) (by simp [results, Try.results25, go_sem, e0, e1]) rfl HPo.out
  · have hD : newD p = ⟨[], []⟩ := by unfold newD; rw [if_neg hp]
    have hE : newE p = 2 := by unfold newE; rw [if_neg hp]
    rw [hD, hE] at HP
    rw [hD, hE]
    have HN := Lib.hid hp
    have e0 := hr0.cell 0 _ rfl
    have e1 := hr0.cell 1 _ rfl
    have HB : Hid (Below w.heap.size w (w.alloc (Obj.cells #[.slice none 0 0, .slice none 0 0] 29))) := (Below.refl _ w).alloc (Nat.le_refl _) _
    have HPo := Lib.hid (HP.out Dv.nil _ rfl ⟨DIn.nil _, fun b h => Or.inl h⟩ HB.out)
    clear hp hD hE hr0 HP HB
    unfold dVal Dv.nil at HPo
    simp only [List.length_nil] at HPo
    go_enter Try.func25, Try.ntmps25
    go_wp2_with fail
    all_goals first | (exfalso; have := HN.out; omega) | exact bodyPost_ret (v := .tuple #[.agg #[.slice none 0 0, .slice none 0 0], .int .i64 2]) (by simp [results, Try.results25, go_sem]) rfl HPo.out

set_option maxHeartbeats 4000000 in
theorem new26_any (p : Int) (w : World) : Calls Try.prog 26 #[.int .i64 p] w (OutP w Dv.nil (newD p) (fun v => .tuple #[v, .int .i64 (newE p)])) := by
  have HP : Hid (∀ (y : Dv) w', y.pl = newD p → DAns w Dv.nil w' y → Below w.heap.size w w' → OutP w Dv.nil (newD p) (fun v => .tuple #[v, .int .i64 (newE p)]) (.returned (.tuple #[dVal y, .int .i64 (newE p)])) w') := fun y w' h1 h2 h3 => ⟨y, rfl, h1, h2, h3⟩
  have hr0 := (At.new w Z2 29)
  unfold Z2 at hr0
  by_cases hp : 1 ≤ p ∧ p ≤ 8
  · have hD : newD p = ⟨[], List.replicate p.toNat (List.replicate 16 0)⟩ := by unfold newD; rw [if_pos hp]
    have hE : newE p = 0 := by unfold newE; rw [if_pos hp]
    obtain ⟨n, rfl⟩ : ∃ n : Nat, p = (n : Int) := ⟨p.toNat, by omega⟩
    rw [hD, hE, Int.toNat_natCast] at HP
    rw [Int.toNat_natCast] at hD
    rw [hD, hE]
    obtain ⟨hp1, hp2⟩ := hp
    generalize OutP w Dv.nil ⟨[], List.replicate n (List.replicate 16 0)⟩ (fun v => .tuple #[v, .int .i64 0]) = Post at *
    clear hD hE
    have hW : Wk (w.heap.size + 1) ((w.alloc (Obj.cells #[.slice none 0 0, .slice none 0 0] 29)).alloc (Obj.cells #[.slice none 0 0, .slice none 0 0] 29)) (w.heap.size + 1) Dv.nil := by
      refine ⟨⟨⟨rfl, Or.inl ⟨rfl, rfl⟩⟩, ⟨rfl, Or.inl ⟨rfl, rfl⟩⟩, (fun y hy => by cases hy), List.Pairwise.nil⟩, ?_, Nat.le_refl _⟩
      have := Bx.new (w.alloc (Obj.cells #[.slice none 0 0, .slice none 0 0] 29)) Dv.nil
      rw [show (w.alloc (Obj.cells #[.slice none 0 0, .slice none 0 0] 29)).heap.size = w.heap.size + 1 from by simp] at this
      exact this
    have hR : At ((w.alloc (Obj.cells #[.slice none 0 0, .slice none 0 0] 29)).alloc (Obj.cells #[.slice none 0 0, .slice none 0 0] 29)) w.heap.size [.slice none 0 0, .slice none 0 0] := hr0.alloc _
    have hB : Below w.heap.size w ((w.alloc (Obj.cells #[.slice none 0 0, .slice none 0 0] 29)).alloc (Obj.cells #[.slice none 0 0, .slice none 0 0] 29)) := ((Below.refl _ w).alloc (Nat.le_refl _) _).alloc (by simp) _
    have HW := Lib.hid hW
    have HR := Lib.hid hR
    have HB := Lib.hid hB
    clear hW hR hB hr0
    go_enter Try.func26, Try.ntmps26
    go_wp2_with fail
    generalize ((w.alloc (Obj.cells #[.slice none 0 0, .slice none 0 0] 29)).alloc (Obj.cells #[.slice none 0 0, .slice none 0 0] 29)) = w0 at *
    go_loopw [5] (fun v wr => ∃ (k : Nat) (y : Dv), k ≤ n ∧ v = .int .i64 k ∧ Hid (y.o = [] ∧ y.t.map Tb.l = List.replicate k (List.replicate 16 0)) ∧ Hid (Wk (w.heap.size + 1) wr (w.heap.size + 1) y) ∧ Hid (At wr w.heap.size [.slice none 0 0, .slice none 0 0]) ∧ Hid (Below w.heap.size w wr)) (fun v _ => 100 - (intOf v).toNat)
    case atStart => exact ⟨0, Dv.nil, Nat.zero_le _, rfl, ⟨rfl, rfl⟩, HW, HR, HB⟩
    case round =>
      clear HW HR HB
      obtain ⟨k, y, hk, rfl, HY, HW, HR, HB⟩ := hrel
      obtain ⟨x0, x1, x2, x3, x4⟩ := HW.out.box.cc
      by_cases hlt : k < n
      · have hlt' : (k : Int) < (n : Int) := by omega
        have HYL : Hid (y.t.length = k) := by
          have := congrArg List.length HY.out.2
          rwa [List.length_map, List.length_replicate] at this
        have hmk : ∀ W : World, (Instr.makeSlice 22 (.int .i64 16) (.int .i64 16)).run Try.prog W = .ok (.slice (some ⟨W.heap.size, 0, none⟩) 16 16) (W.alloc (.cells (ints (List.replicate 16 0)).toArray 3)) := fun W => by
          have := make_run 16 (by omega) W
          rw [made_ints] at this
          exact this
        obtain ⟨Zc, hZc⟩ : ∃ Zc, Zc = (ints (List.replicate 16 0)).toArray := ⟨_, rfl⟩
        rw [← hZc] at hmk
        have hh3 : (wr.drew.alloc (Obj.cells Zc 3)).heap[wr.heap.size]? = some (.cells (ints (List.replicate 16 0)).toArray 3 (0, 0)) := by rw [← hZc]; exact Go.heap_alloc_new wr.drew _
        have hwlt : w.heap.size + 1 ≤ wr.heap.size := by have := HW.out.lo; omega
        have hown1 := own_whole (B := w.heap.size + 1) (n := 16) hh3 hwlt rfl (by omega)
        have hb3 : Below wr.heap.size wr (wr.drew.alloc (Obj.cells Zc 3)) := ((Below.refl _ wr).drew).alloc (Nat.le_refl _) _
        have hs3 : (wr.drew.alloc (Obj.cells Zc 3)).heap.size = wr.heap.size + 1 := alloc_size wr.drew _
        obtain ⟨w3, hw3⟩ : ∃ w3, w3 = wr.drew.alloc (Obj.cells Zc 3) := ⟨_, rfl⟩
        rw [← hw3] at hh3 hown1 hb3 hs3
        have hW3 : Wk (w.heap.size + 1) w3 (w.heap.size + 1) y := HW.out.below hb3
        obtain ⟨yn, hyn⟩ : ∃ yn : Tb, yn = ⟨some ⟨wr.heap.size, 0, none⟩, 16, List.replicate 16 0⟩ := ⟨_, rfl⟩
        have hb4 : Below w3.heap.size w3 (w3.alloc (Obj.cells #[Value.slice (some ⟨wr.heap.size, 0, none⟩) 16 16] 22)) := (Below.refl _ _).alloc (Nat.le_refl _) _
        have hc4 : (w3.alloc (Obj.cells #[Value.slice (some ⟨wr.heap.size, 0, none⟩) 16 16] 22)).cell? ⟨w3.heap.size, 0, none⟩ = some yn.val := by rw [hyn]; simp [Tb.val]
        have hW4k : Wk (w.heap.size + 1) (w3.alloc (Obj.cells #[Value.slice (some ⟨wr.heap.size, 0, none⟩) 16 16] 22)) (w.heap.size + 1) y := hW3.below hb4
        have hlt4 : w.heap.size + 1 ≤ (w3.alloc (Obj.cells #[Value.slice (some ⟨wr.heap.size, 0, none⟩) 16 16] 22)).heap.size := by have := hb4.size; omega
        obtain ⟨aN, cN, wN, hrun, hown, hbox, hbN⟩ := append_tab _ (w.heap.size + 1) (w.heap.size + 1) y yn w3.heap.size hW4k hc4 (by rw [hyn]; exact ownsRow_below hown1 hb4) (by
          intro z hz p q hp hq
          rw [hyn] at hq
          cases hq
          have h2 := (HW.out.own.e z hz).lt p.block (by unfold Tb.val; rw [hp]; rfl)
          show p.block ≠ wr.heap.size
          omega) (by have := HYL.out; omega) hlt4
        have HAP := Lib.hid hrun
        have HWN : Hid (Wk (w.heap.size + 1) (wN.setCell ⟨w.heap.size + 1, 1, none⟩ (.slice aN (y.t.length + 1) cN)) (w.heap.size + 1) ⟨y.oa, y.oc, y.o, aN, cN, y.t ++ [yn]⟩) := Wk.boxT hown hbox (Nat.le_refl _) (by simp)
        have hbW : Below (w.heap.size + 1) wr (wN.setCell ⟨w.heap.size + 1, 1, none⟩ (.slice aN (y.t.length + 1) cN)) := (((hb3.mono hwlt).trans (hb4.mono (by omega))).trans hbN).setCell (p := ⟨w.heap.size + 1, 1, none⟩) (Nat.le_refl _) _
        have HBN : Hid (Below w.heap.size w (wN.setCell ⟨w.heap.size + 1, 1, none⟩ (.slice aN (y.t.length + 1) cN))) := HB.out.trans (hbW.mono (Nat.le_succ _))
        have HRN : Hid (At (wN.setCell ⟨w.heap.size + 1, 1, none⟩ (.slice aN (y.t.length + 1) cN)) w.heap.size [.slice none 0 0, .slice none 0 0]) := HR.out.below hbW (Nat.lt_succ_self _)
        have HYN : Hid ((y.t ++ [yn]).map Tb.l = List.replicate (k + 1) (List.replicate 16 0)) := by
          rw [Hid, List.map_append, HY.out.2, List.replicate_succ' (n := k), hyn]; rfl
        obtain ⟨z0, z1, z2, z3, z4⟩ := hbox.cc
        obtain ⟨u0, u1, u2, u3, u4⟩ := hW3.box.cc
        clear hrun hown hbox hbN hown1 hW3 hW4k hc4 hb4 hb3 hh3 hbW hs3
        rw [hw3] at HAP u0 u1 u2 u3 u4
        rw [show (wr.drew.alloc (Obj.cells Zc 3)).heap.size = wr.heap.size + 1 from alloc_size wr.drew _] at HAP
        clear hw3 hZc
        have hx5 : w.heap.size < wr.heap.size := by omega
        go_wp2_with fail
        go_region_law (refine step_append_runI rfl (.tmp 19) (.tmp 21) 27 rfl (.slice y.ta y.t.length y.tc) (.slice (some ⟨wr.heap.size + 1, 0, none⟩) 1 1) (by simp [Act.eval, Act.put]) (by simp [Act.eval, Act.put]) HAP.out ?_)
        all_goals
          clear HAP
          go_wp2_with fail
          go_roundw
          case rel => exact ⟨k + 1, ⟨y.oa, y.oc, y.o, aN, cN, y.t ++ [yn]⟩, by omega, by go_num, ⟨HY.out.1, HYN.out⟩, HWN, HRN, HBN⟩
          case measure => simp [intOf]; omega
      · obtain rfl : k = n := by omega
        have hA := HR.out
        obtain ⟨r0, r1, r2, r3, r4⟩ := hA.two
        have hA5 := (hA.set 0 (.slice y.oa y.o.length y.oc)).set 1 (.slice y.ta y.t.length y.tc)
        have hneO : w.heap.size ≠ w.heap.size + 1 := by omega
        have tyR : ∀ q e size n v xs, wr.ownsRow (w.heap.size + 1) e size v n xs → v.ownBlock = some q → q ≠ w.heap.size := fun q e size n v xs h hq => by have := (h.lt q hq).1; omega
        have hD5 : DOwn w.heap.size ((wr.setCell ⟨w.heap.size, 0, none⟩ (.slice y.oa y.o.length y.oc)).setCell ⟨w.heap.size, 1, none⟩ (.slice y.ta y.t.length y.tc)) y := by
          have h0 := HW.out.own
          refine DOwn.mono (B := w.heap.size + 1) ⟨?_, ?_, fun z hz => ?_, h0.d⟩ (by omega)
          · exact own_apart (own_apart h0.o _ _ (fun q hq => tyR q _ _ _ _ _ h0.o hq)) _ _ (fun q hq => tyR q _ _ _ _ _ h0.o hq)
          · exact own_apart (own_apart h0.t _ _ (fun q hq => tyR q _ _ _ _ _ h0.t hq)) _ _ (fun q hq => tyR q _ _ _ _ _ h0.t hq)
          · exact own_apart (own_apart (h0.e z hz) _ _ (fun q hq => tyR q _ _ _ _ _ (h0.e z hz) hq)) _ _ (fun q hq => tyR q _ _ _ _ _ (h0.e z hz) hq)
        have hB5 : Below w.heap.size w ((wr.setCell ⟨w.heap.size, 0, none⟩ (.slice y.oa y.o.length y.oc)).setCell ⟨w.heap.size, 1, none⟩ (.slice y.ta y.t.length y.tc)) := (HB.out.setCell (p := ⟨w.heap.size, 0, none⟩) (Nat.le_refl _) _).setCell (p := ⟨w.heap.size, 1, none⟩) (Nat.le_refl _) _
        have HPo := Lib.hid (HP.out y _ (De.ext' HY.out.1 HY.out.2) (hD5.ans (Nat.le_refl _)) hB5)
        simp only [List.set_cons_zero, List.set_cons_succ] at hA5
        have e0 := hA5.cell 0 _ rfl
        have e1 := hA5.cell 1 _ rfl
        clear hD5 hB5 hA5 hA HW HP tyR HY
        unfold dVal at HPo
        go_wp2_with fail
        generalize ((wr.setCell ⟨w.heap.size, 0, none⟩ (.slice y.oa y.o.length y.oc)).setCell ⟨w.heap.size, 1, none⟩ (.slice y.ta y.t.length y.tc)) = w9 at *
        exact bodyPost_ret (v := .tuple #[.agg #[.slice y.oa y.o.length y.oc, .slice y.ta y.t.length y.tc], .int .i64 0]) (by simp [results, Try.results26, go_sem, e0, e1]) rfl HPo.out
  · have hD : newD p = ⟨[], []⟩ := by unfold newD; rw [if_neg hp]
    have hE : newE p = 2 := by unfold newE; rw [if_neg hp]
    rw [hD, hE] at HP
    rw [hD, hE]
    have HN := Lib.hid hp
    have e0 := hr0.cell 0 _ rfl
    have e1 := hr0.cell 1 _ rfl
    have HB : Hid (Below w.heap.size w (w.alloc (Obj.cells #[.slice none 0 0, .slice none 0 0] 29))) := (Below.refl _ w).alloc (Nat.le_refl _) _
    have HPo := Lib.hid (HP.out Dv.nil _ rfl ⟨DIn.nil _, fun b h => Or.inl h⟩ HB.out)
    clear hp hD hE hr0 HP HB
    unfold dVal Dv.nil at HPo
    simp only [List.length_nil] at HPo
    go_enter Try.func26, Try.ntmps26
    go_wp2_with fail
    all_goals first | (exfalso; have := HN.out; omega) | exact bodyPost_ret (v := .tuple #[.agg #[.slice none 0 0, .slice none 0 0], .int .i64 2]) (by simp [results, Try.results26, go_sem]) rfl HPo.out
end Go.Proofs.Ytflcbefomjlgmaa
