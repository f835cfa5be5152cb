/- copied: the document's copy of descriptors. -/
import Derived.Test.YtflcbefomjlgmaaCo
import Derived.Deep.RegionLaw
set_option linter.unusedSimpArgs false
set_option linter.unusedVariables false
namespace Go.Proofs.Ytflcbefomjlgmaa
open Go.ChangeShapes Go.WideShapes Go.ChangeAt Go.RowKit

theorem step_append_runI {ops : Array Oper} {o : Oper} {a : Act} {w : World} {K : Act → World → Prop} {Q : Exit → Act → World → Prop} {E : Prop} (hg : o.guard = none) (s x : Operand) (t : TypeId)
    (ho : o.op = .call { callee := .builtin .append, args := #[s, x], argTypes := #[t, t] }) (u v : Value) (hs : a.eval s = u) (hx : a.eval x = v) {r : Value} {w' : World}
    (hrun : (Builtin.append_ #[t, t] o.type #[u, v]).run Try.prog w = .ok r w') (h : K (a.put o.dst r) w') :
    if Region.wanted o (yielded ops a.tmps) = true then Oper.wp Try.prog o a w K Q else E := by
  rw [if_pos (by simp [Region.wanted, hg])]
  unfold Oper.wp execOp
  simp only [ho, resolve, invoke, builtin, Sem.run_bind, Sem.run_pure, Result.andThen_ok, List.map_toArray, List.map_cons, List.map_nil, hs, hx, hrun]
  exact h
/-- a row of numbers, copied behind nothing -/
theorem append_ints (W : World) (B : Nat) (a : Option Addr) (c : Nat) (l : List Int) (h : RowOf W a l.length c (ints l)) (hl : l.length ≤ 10000) (hB : B ≤ W.heap.size) :
    ∃ a' c' W', (Builtin.append_ #[22, 22] 22 #[.slice none 0 0, .slice a l.length c]).run Try.prog W = .ok (.slice a' l.length c') W' ∧ W'.ownsRow B 3 1 (.slice a' l.length c') l.length (ints l) ∧ W.grownBy W' none ∧ (∀ q, a' = some q → W.heap.size ≤ q.block) := by
  obtain ⟨i0, hi, hz0, hz1, hz2⟩ := info_parts int_info
  rcases h with ⟨rfl, h2, rfl⟩ | ⟨g, o, rfl, h2, h3, h4, h5⟩
  · have h3 := List.length_eq_zero_iff.1 h2
    subst h3
    exact ⟨none, 0, W, run_append_owned_none (P := Try.prog) (w := W) B 22 22 3 i0 1 Try.underlying22 hi _ _ _ (World.ownsRow_nil W B 3 1), World.ownsRow_nil W B 3 1, ⟨rfl, rfl, rfl, Nat.le_refl _, fun _ _ _ => rfl⟩, fun q e => by cases e⟩
  · have hc : ∀ j u, (ints l)[j]? = some u → W.cell? ((⟨g, o, none⟩ : Addr).add j) = some u := fun j u hj => by rw [Addr.add_lit]; exact h5 j u hj
    obtain ⟨v', W', hr, how, hg, _⟩ := run_append_own (P := Try.prog) W W.heap.size 22 22 3 i0 _ 1 8 Try.underlying22 hi hz0 hz1 hz2 rfl (by decide) _ _ _ (World.ownsRow_nil W W.heap.size 3 1) ⟨g, o, none⟩ l.length c (ints l) (by simp [ints]) hc ints_one (by unfold maxLen; omega) (by omega) (Nat.le_refl _)
    rw [Nat.zero_add, List.nil_append] at how
    obtain ⟨a', c', rfl⟩ := own_slice how
    exact ⟨a', c', W', hr, own_mono how hB, hg, fun q e => (how.lt q.block (by rw [e]; rfl)).1⟩
theorem append_descs (W : World) (B : Nat) (a : Option Addr) (c : Nat) (l : List Dn) (h : RowOf W a l.length c (oflat l)) (hl : l.length ≤ 10000) (hB : B ≤ W.heap.size) :
    ∃ a' c' W', (Builtin.append_ #[26, 26] 26 #[.slice none 0 0, .slice a l.length c]).run Try.prog W = .ok (.slice a' l.length c') W' ∧ W'.ownsRow B 34 5 (.slice a' l.length c') l.length (oflat l) ∧ W.grownBy W' none := by
  obtain ⟨i0, hi, hz0, hz1, hz2⟩ := info_parts desc_info
  rcases h with ⟨rfl, h2, rfl⟩ | ⟨g, o, rfl, h2, h3, h4, h5⟩
  · have h3 := List.length_eq_zero_iff.1 h2
    subst h3
    exact ⟨none, 0, W, run_append_owned_none (P := Try.prog) (w := W) B 26 26 34 i0 5 Try.underlying26 hi _ _ _ (World.ownsRow_nil W B 34 5), World.ownsRow_nil W B 34 5, ⟨rfl, rfl, rfl, Nat.le_refl _, fun _ _ _ => rfl⟩⟩
  · have hc : ∀ j u, (oflat l)[j]? = some u → W.cell? ((⟨g, o, none⟩ : Addr).add j) = some u := fun j u hj => by rw [Addr.add_lit]; exact h5 j u hj
    obtain ⟨v', W', hr, how, hg, _⟩ := run_append_own (P := Try.prog) W B 26 26 34 i0 _ 5 40 Try.underlying26 hi hz0 hz1 hz2 rfl (by decide) _ _ _ (World.ownsRow_nil W B 34 5) ⟨g, o, none⟩ l.length c (oflat l) (oflat_len l) hc oflat_cells (by unfold maxLen; omega) (by omega) hB
    rw [Nat.zero_add, List.nil_append] at how
    obtain ⟨a', c', rfl⟩ := own_slice how
    exact ⟨a', c', W', hr, how, hg⟩
theorem below_grown {W W' : World} (h : W.grownBy W' none) : Below W.heap.size W W' := (Below.refl W.heap.size W).grown h (Nat.le_refl _) (fun k hk => by cases hk)
theorem Wk.drew {B b : Nat} {W : World} {x : Dv} (h : Wk B W b x) : Wk B W.drew b x := h.below (Below.refl _ _).drew

set_option maxHeartbeats 4000000 in
theorem copied_any (x : Dv) (w : World) (h : DIn w x) (hz : DSz x) : Calls Try.prog 39 #[dVal x] w (ClonePost w x.pl) := by
  have HC := Lib.hid (fun W hb B hB => append_descs W B x.oa x.oc x.o (h.below hb).o hz.o hB)
  have HR := Lib.hid h.rows
  have HRW : Hid (∀ W, Below w.heap.size w W → ∀ k, k < x.t.length → RowOf W (x.t.getD k Tb.nil).a (x.t.getD k Tb.nil).l.length (x.t.getD k Tb.nil).c (ints (x.t.getD k Tb.nil).l)) := fun W hb k hk => (h.below hb).tab k hk
  have HSE : Hid (∀ k, k < x.t.length → (x.t.getD k Tb.nil).l.length ≤ 10000) := fun k hk => hz.e _ (by rw [getD_get hk]; exact List.getElem_mem hk)
  have HP : Hid (∀ (y : Dv) w', y.o = x.o → y.t.map Tb.l = x.t.map Tb.l → DOwn w.heap.size w' y → Below w.heap.size w w' → ClonePost w x.pl (.returned (dVal y)) w') := fun y w' h1 h2 h3 h4 => ⟨y, rfl, De.ext' h1 h2, h3, h4⟩
  have hot := hz.t
  have hoo := hz.o
  clear h hz
  generalize ClonePost w x.pl = Post at *
  unfold dVal at HP ⊢
  obtain ⟨oa, oc, o, ta, tc, t⟩ := x
  simp only at HC HR HRW HSE HP hot hoo
  obtain ⟨W0, hW0⟩ : ∃ W0, W0 = (w.alloc (Obj.cells #[.slice oa o.length oc, .slice ta t.length tc] 29)).alloc (Obj.cells Z2.toArray 29) := ⟨_, rfl⟩
  have hb0 : Below w.heap.size w W0 := by rw [hW0]; exact ((Below.refl _ w).alloc (Nat.le_refl _) _).alloc (by simp) _
  have hs0 : W0.heap.size = w.heap.size + 2 := by rw [hW0]; simp
  have hB0 : At W0 (w.heap.size + 1) Z2 := by rw [hW0]; exact (At.new (w.alloc (Obj.cells #[.slice oa o.length oc, .slice ta t.length tc] 29)) Z2 29).cast (by simp)
  have hp0 : W0.cell? ⟨w.heap.size, 0, none⟩ = some (.slice oa o.length oc) := by rw [hW0]; simp
  have hp1 : W0.cell? ⟨w.heap.size, 1, none⟩ = some (.slice ta t.length tc) := by rw [hW0]; simp
  obtain ⟨a', c', w1, hrun, ho1, hgr⟩ := HC.out W0 hb0 (w.heap.size + 2) (by omega)
  have hb : Below W0.heap.size W0 w1 := below_grown hgr
  have HAP := Lib.hid hrun
  have HB0 := Lib.hid hb0
  have HS0 := Lib.hid hs0
  have HA0 := Lib.hid hB0
  have hlt : W0.heap.size ≤ w1.heap.size := hb.size
  have HB1 : Hid (Below (w.heap.size + 2) W0 w1) := by rw [← HS0.out]; exact hb
  rw [HS0.out] at hlt
  obtain ⟨O, hO⟩ : ∃ O, O = w1.heap.size := ⟨_, rfl⟩
  have how := ownsRow_below ho1 ((Below.refl w1.heap.size w1).alloc (Nat.le_refl _) (Obj.cells #[.slice a' o.length c', .slice none 0 0] 29))
  have hW : Wk (w.heap.size + 2) (w1.alloc (Obj.cells #[.slice a' o.length c', .slice none 0 0] 29)) w1.heap.size ⟨a', c', o, none, 0, []⟩ :=
    ⟨⟨how, ⟨rfl, Or.inl ⟨rfl, rfl⟩⟩, (fun y hy => by cases hy), List.Pairwise.nil⟩, Bx.new w1 ⟨a', c', o, none, 0, []⟩, hlt⟩
  have hB2 : Below (w.heap.size + 2) W0 (w1.alloc (Obj.cells #[.slice a' o.length c', .slice none 0 0] 29)) := HB1.out.alloc hlt _
  have HWk := Lib.hid hW
  have HB2 := Lib.hid hB2
  have HP1 : Hid (∀ W, Below (w.heap.size + 2) W0 W → W.cell? ⟨w.heap.size, 1, none⟩ = some (.slice ta t.length tc)) := fun W hbW => (hbW.cell (p := ⟨w.heap.size, 1, none⟩) (by show w.heap.size < w.heap.size + 2; omega)).trans hp1
  have hlt0 : w.heap.size < w1.heap.size := by omega
  have hne0 : w.heap.size ≠ w1.heap.size := by omega
  clear hp1 hb HC hW hB2 how ho1 HB1 hrun hgr hb0 hs0 hB0
  simp only [Z2] at hW0
  go_enter Try.func39, Try.ntmps39
  go_wp2_with (at_builtin; rw [← hW0]; clear hW0; refine Lib.wpList_append_run _ rfl _ _ _ _ rfl _ _ rfl rfl _ _ HAP.out ?_)
  clear HAP hp0
  go_wp2_with fail
  generalize w1.alloc (Obj.cells #[.slice a' o.length c', .slice none 0 0] 29) = w2 at *
  rw [← hO] at *
  go_loopw [4] (fun v4 wr => ∃ (k : Nat) (y : Dv), k ≤ t.length ∧ v4 = .int .i64 k ∧ Hid (y.o = o ∧ y.t.map Tb.l = (t.map Tb.l).take k) ∧ Hid (Wk (w.heap.size + 2) wr O y) ∧ Hid (Below (w.heap.size + 2) W0 wr)) (fun v4 _ => 2000 - (intOf v4).toNat)
  case atStart => exact ⟨0, ⟨a', c', o, none, 0, []⟩, Nat.zero_le _, rfl, ⟨rfl, rfl⟩, HWk, HB2⟩
  case round =>
    obtain ⟨k, y, hk, rfl, HY, HW, HB⟩ := hrel
    have HBW := Lib.hid (HB0.out.trans (HB.out.mono (by omega)))
    obtain ⟨x0, x1, x2, x3, x4⟩ := HW.out.box.cc
    have hpc := HP1.out wr HB.out
    by_cases hlt2 : k < t.length
    · have hlt' : (k : Int) < (t.length : Int) := by omega
      obtain ⟨g, of, rfl, q1, q2, hcell, _⟩ := HR.out wr HBW.out k hlt2
      have hrow := HRW.out wr.drew HBW.out.drew k hlt2
      have hye := HSE.out k hlt2
      have htk : (t.map Tb.l).take (k + 1) = (t.map Tb.l).take k ++ [(t.getD k Tb.nil).l] := by
        rw [List.take_add_one, List.getElem?_map, List.getElem?_eq_getElem hlt2, getD_get hlt2]; rfl
      have HTK := Lib.hid htk
      clear htk HRW HSE HR HWk HB2
      generalize t.getD k Tb.nil = q at *
      obtain ⟨ya, yc, yl⟩ := q
      simp only at hcell hrow hye HTK
      have HYL : Hid (y.t.length = k) := by
        have := congrArg List.length HY.out.2
        rw [List.length_map, List.length_take, List.length_map] at this
        rw [Hid, this]; omega
      have hwlt : w.heap.size + 2 ≤ wr.heap.size := HW.out.box.cc.2.2.2.2 |> fun h => by have := HW.out.lo; omega
      obtain ⟨aY, cY, w3, hrun1, hown1, hgr1, hfr1⟩ := append_ints wr.drew (w.heap.size + 2) ya yc yl hrow hye hwlt
      have hb3 : Below wr.heap.size wr w3 := ((Below.refl _ wr).drew).trans (below_grown hgr1)
      have hW3 : Wk (w.heap.size + 2) w3 O y := HW.out.below hb3
      obtain ⟨yn, hyn⟩ : ∃ yn : Tb, yn = ⟨aY, cY, yl⟩ := ⟨_, rfl⟩
      have hb4 : Below w3.heap.size w3 (w3.alloc (Obj.cells #[Value.slice aY yl.length cY] 22)) := (Below.refl _ _).alloc (Nat.le_refl _) _
      have hc4 : (w3.alloc (Obj.cells #[Value.slice aY yl.length cY] 22)).cell? ⟨w3.heap.size, 0, none⟩ = some yn.val := by rw [hyn]; simp [Tb.val]
      have hW4k : Wk (w.heap.size + 2) (w3.alloc (Obj.cells #[Value.slice aY yl.length cY] 22)) O y := hW3.below hb4
      have hs3 : wr.heap.size ≤ w3.heap.size := hb3.size
      have hlt4 : w.heap.size + 2 ≤ (w3.alloc (Obj.cells #[Value.slice aY yl.length cY] 22)).heap.size := by have := hb4.size; omega
      obtain ⟨aN, cN, wN, hrun, hown, hbox, hbN⟩ := append_tab _ (w.heap.size + 2) O y yn w3.heap.size hW4k hc4 (by rw [hyn]; exact ownsRow_below hown1 hb4) (by
        intro z hz p q hp hq
        rw [hyn] at hq
        have h1 := hfr1 q hq
        have h2 := (HW.out.own.e z hz).lt p.block (by unfold Tb.val; rw [hp]; rfl)
        have h3 : wr.drew.heap.size = wr.heap.size := rfl
        omega) (by have := HYL.out; omega) hlt4
      have HAP1 := Lib.hid hrun1
      have HAP := Lib.hid hrun
      have HWN : Hid (Wk (w.heap.size + 2) (wN.setCell ⟨O, 1, none⟩ (.slice aN (y.t.length + 1) cN)) O ⟨y.oa, y.oc, y.o, aN, cN, y.t ++ [yn]⟩) := Wk.boxT hown hbox HW.out.lo (by simp)
      have HBN : Hid (Below (w.heap.size + 2) W0 (wN.setCell ⟨O, 1, none⟩ (.slice aN (y.t.length + 1) cN))) := (((HB.out.trans (hb3.mono hwlt)).trans (hb4.mono (by omega))).trans hbN).setCell (p := ⟨O, 1, none⟩) HW.out.lo _
      have HYN : Hid ((y.t ++ [yn]).map Tb.l = (t.map Tb.l).take (k + 1)) := by
        rw [Hid, List.map_append, HY.out.2, HTK.out, hyn]; rfl
      obtain ⟨z0, z1, z2, z3, z4⟩ := hbox.cc
      have hO3 : O < w3.heap.size := by omega
      obtain ⟨u0, u1, u2, u3, u4⟩ := hW3.box.cc
      clear hrun hrun1 hown hbox hbN hown1 hgr1 hfr1 hW3 hW4k hc4 hb4 hb3 hrow
      go_wp2_with fail
      go_region_law (first | (refine step_append_runI rfl (.const (.slice none 0 0)) (.tmp 22) 22 rfl (.slice none 0 0) (.slice ya yl.length yc) (by simp [Act.eval, Act.put]) (by simp [Act.eval, Act.put]) HAP1.out ?_) | (refine step_append_runI rfl (.tmp 17) (.tmp 24) 27 rfl (.slice y.ta y.t.length y.tc) (.slice (some ⟨w3.heap.size, 0, none⟩) 1 1) (by simp [Act.eval, Act.put]) (by simp [Act.eval, Act.put]) HAP.out ?_))
      all_goals
        clear HAP HAP1
        go_wp2_with fail
        go_roundw
        case rel => exact ⟨k + 1, ⟨y.oa, y.oc, y.o, aN, cN, y.t ++ [yn]⟩, by omega, by go_num, ⟨HY.out.1, HYN.out⟩, HWN, HBN⟩
        case measure => simp [intOf]; omega
    · obtain rfl : k = t.length := by omega
      have htt : (t.map Tb.l).take t.length = t.map Tb.l := List.take_of_length_le (by simp)
      have HY2 : Hid (y.o = o ∧ y.t.map Tb.l = t.map Tb.l) := ⟨HY.out.1, by rw [HY.out.2, htt]⟩
      have hA := HA0.out.below HB.out (by omega)
      unfold Z2 at hA
      obtain ⟨r0, r1, r2, r3, r4⟩ := hA.two
      have hA5 := (hA.set 0 (.slice y.oa y.o.length y.oc)).set 1 (.slice y.ta y.t.length y.tc)
      have hneO : w.heap.size + 1 ≠ O := by have := HW.out.lo; omega
      have tyR : ∀ q e size n v xs, wr.ownsRow (w.heap.size + 2) e size v n xs → v.ownBlock = some q → q ≠ w.heap.size + 1 := fun q e size n v xs h hq => by have := (h.lt q hq).1; omega
      have hD5 : DOwn w.heap.size ((wr.setCell ⟨w.heap.size + 1, 0, none⟩ (.slice y.oa y.o.length y.oc)).setCell ⟨w.heap.size + 1, 1, none⟩ (.slice y.ta y.t.length y.tc)) y := by
        have h0 := HW.out.own
        refine DOwn.mono (B := w.heap.size + 2) ⟨?_, ?_, fun z hz => ?_, h0.d⟩ (by omega)
        · exact own_apart (own_apart h0.o _ _ (fun q hq => tyR q _ _ _ _ _ h0.o hq)) _ _ (fun q hq => tyR q _ _ _ _ _ h0.o hq)
        · exact own_apart (own_apart h0.t _ _ (fun q hq => tyR q _ _ _ _ _ h0.t hq)) _ _ (fun q hq => tyR q _ _ _ _ _ h0.t hq)
        · exact own_apart (own_apart (h0.e z hz) _ _ (fun q hq => tyR q _ _ _ _ _ (h0.e z hz) hq)) _ _ (fun q hq => tyR q _ _ _ _ _ (h0.e z hz) hq)
      have hB5 : Below w.heap.size w ((wr.setCell ⟨w.heap.size + 1, 0, none⟩ (.slice y.oa y.o.length y.oc)).setCell ⟨w.heap.size + 1, 1, none⟩ (.slice y.ta y.t.length y.tc)) := (HBW.out.setCell (p := ⟨w.heap.size + 1, 0, none⟩) (by simp) _).setCell (p := ⟨w.heap.size + 1, 1, none⟩) (by simp) _
      have hPo := HP.out y _ HY2.out.1 HY2.out.2 hD5 hB5
      have HPo := Lib.hid hPo
      simp only [List.set_cons_zero, List.set_cons_succ] at hA5
      have e0 := hA5.cell 0 _ rfl
      have e1 := hA5.cell 1 _ rfl
      clear hPo hD5 hB5 hA5 hA HW HP tyR htt HY HY2
      unfold dVal at HPo
      go_wp2_with fail
      generalize ((wr.setCell ⟨w.heap.size + 1, 0, none⟩ (.slice y.oa y.o.length y.oc)).setCell ⟨w.heap.size + 1, 1, none⟩ (.slice y.ta y.t.length y.tc)) = w9 at *
      exact bodyPost_ret (v := .agg #[.slice y.oa y.o.length y.oc, .slice y.ta y.t.length y.tc]) (by simp [results, Try.results39, go_sem, e0, e1]) rfl HPo.out
end Go.Proofs.Ytflcbefomjlgmaa
