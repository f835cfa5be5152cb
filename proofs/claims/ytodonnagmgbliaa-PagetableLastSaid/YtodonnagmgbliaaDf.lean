/- slices.IndexFunc and slices.DeleteFunc at entries. -/
import Derived.Test.YtodonnagmgbliaaEr
namespace Go.Proofs.Ytodonnagmgbliaa
open Go.ChangeShapes Go.WideShapes Go.ChangeAt Go.RowKit

/-- function fn with the variables lb tells of each entry whether it goes, in each world in which all that lay in w0 lies as it lay -/
def GoneAt (w0 : World) (fn : Nat) (lb : Array Value) (gone : Ar → Bool) : Prop :=
  ∀ (W : World) (x : Ar), Below w0.heap.size w0 W → Calls Try.prog fn (#[arVal x] ++ lb) W (RetW (.bool (gone x)) W)

set_option maxHeartbeats 4000000 in
theorem indexF_any (w0 : World) (fn : Nat) (lb : Array Value) (gone : Ar → Bool) (eg : ∀ args w, (callFunc fn args).run Try.prog w = .ok (.enter fn args) w) (hG : GoneAt w0 fn lb gone)
    (B : Nat) (b : Option Addr) (l : List Ar) (cap : Nat) (w : World) (h : ARow B b cap l w) (hl : l.length ≤ 100) (hb0 : Below w0.heap.size w0 w) :
    Calls Try.prog 50 #[.slice b l.length cap, .func (.func fn) #[] lb] w fun e w' => ∃ r : Int, e = .returned (.int .i64 r) ∧ ((r = -1 ∧ ∀ j, j < l.length → gone (l.getD j Ar.zero) = false) ∨ ∃ k : Nat, r = k ∧ k < l.length ∧ gone (l.getD k Ar.zero) = true ∧ ∀ j, j < k → gone (l.getD j Ar.zero) = false) ∧ Below w.heap.size w w' := by
  have HA : Hid (∀ W, Below w.heap.size w W → ∀ j, j < l.length → ∃ g, b = some ⟨g, 0, none⟩ ∧ g < w.heap.size ∧ (l.length : Int) ≤ cap ∧ Cel W g (j * 5) (l.getD j Ar.zero)) := by
    intro W hb j hj
    obtain ⟨g, h1, h2, h3, h4, h5, h6⟩ := h.at (by omega)
    exact ⟨g, h1, h3, by omega, (h6 j hj).eq (fun i => hb.cell (p := ⟨g, i, none⟩) h3)⟩
  have HG : Hid (∀ W x, Below w.heap.size w W → Calls Try.prog fn (#[arVal x] ++ lb) W (RetW (.bool (gone x)) W)) := fun W x hb => hG W x (hb0.trans (hb.mono hb0.size))
  clear h hG hb0
  go_enter Try.func50, Try.ntmps50
  go_wp2_with fail
  go_loopw [8] (fun v8 wr => ∃ k : Nat, k ≤ l.length ∧ v8 = .int .i64 k ∧ Hid (Below w.heap.size w wr) ∧ Hid (∀ j, j < k → gone (l.getD j Ar.zero) = false)) (fun v8 _ => 200 - (intOf v8).toNat)
  case atStart => exact ⟨0, Nat.zero_le _, rfl, Below.refl _ _, fun j hj => absurd hj (Nat.not_lt_zero _)⟩
  case round =>
    obtain ⟨k, hk, rfl, HB, HF⟩ := hrel
    by_cases hlt : k < l.length
    · have hlt' : (k : Int) < (l.length : Int) := by omega
      obtain ⟨g, rfl, hg, hcap, hcel⟩ := HA.out _ HB.out k hlt
      have hc := HG.out wr (l.getD k Ar.zero) HB.out
      have HN : Hid (gone (l.getD k Ar.zero) = false → ∀ j, j < k + 1 → gone (l.getD j Ar.zero) = false) := fun h j hj => by
        by_cases e : j = k
        · rw [e]; exact h
        · exact HF.out j (by omega)
      have HH : Hid (gone (l.getD k Ar.zero) = true → ((k : Int) = -1 ∧ ∀ j, j < l.length → gone (l.getD j Ar.zero) = false) ∨ ∃ k' : Nat, (k : Int) = k' ∧ k' < l.length ∧ gone (l.getD k' Ar.zero) = true ∧ ∀ j, j < k' → gone (l.getD j Ar.zero) = false) := fun h => Or.inr ⟨k, rfl, hlt, h, HF.out⟩
      clear HA HG
      generalize gone (l.getD k Ar.zero) = gb at *
      generalize l.getD k Ar.zero = e at *
      obtain ⟨k0, k1, k2, k3, k4⟩ := hcel
      unfold arVal at hc
      obtain ⟨s, c, f, p, q⟩ := e
      simp only at k0 k1 k2 k3 k4 hc
      have HC := Lib.hid hc
      clear hc
      cases gb with
      | true =>
        go_wp2_with (go_at_fn fn; refine HC.out.mono ?_; rintro e w' ⟨rfl, hb⟩)
        go_ret
        exact ⟨k, rfl, HH.out (by first | rfl | trivial), HB.out.trans (hb.mono HB.out.size)⟩
      | false =>
        go_wp2_with (go_at_fn fn; refine HC.out.mono ?_; rintro e w' ⟨rfl, hb⟩)
        have HB2 := Lib.hid (HB.out.trans (hb.mono HB.out.size))
        have HN2 := Lib.hid (HN.out (by first | rfl | trivial))
        go_roundw
        case rel => exact ⟨k + 1, by omega, by go_num, HB2, HN2⟩
        case measure => simp [intOf]; omega
    · obtain rfl : k = l.length := by omega
      go_wp2_with fail
      go_ret
      exact ⟨-1, rfl, Or.inl ⟨rfl, HF.out⟩, HB.out⟩

theorem clear_own (w : World) (B g n cap i : Nat) (R : List Ar) (ho : w.ownsRow B 30 5 (.slice (some ⟨g, 0, none⟩) n cap) n (flat R)) (hn : R.length = n) (hi : i < n) :
    ∃ w' : World, (∀ ty, (Builtin.clear_ #[26] ty #[.slice (some ⟨g, i * 5, none⟩) (n - i) (cap - i)]).run Try.prog w = .ok (.tuple #[]) w') ∧ w'.ownsRow B 30 5 (.slice (some ⟨g, 0, none⟩) i cap) i (flat (R.take i)) ∧ Below B w w' := by
  obtain ⟨i0, hinf, hz0, hz1, hz2⟩ := info_parts area_info
  obtain ⟨hfl, ⟨hno, _⟩ | ⟨g', cap', cur, hge, hBg, hgg, hcn, hcm, hcs, htk⟩⟩ := ho
  · cases hno
  cases hge
  obtain ⟨vs, hvs⟩ : ∃ vs, vs = (Builtin.zeroCells (Value.agg #[.int .i64 0, .int .i64 0, .int .i64 0, .bool false, .bool false]).cells (n - i)).toList := ⟨_, rfl⟩
  have hvl : vs.length = (n - i) * 5 := by rw [hvs, Array.length_toList]; simp [Builtin.zeroCells, Value.cells]
  have hv1 : ∀ v ∈ vs, v.oneCell' = true := by
    intro v hv
    rw [hvs] at hv
    obtain ⟨t, ht, rfl⟩ := List.mem_iff_getElem.1 hv
    simp only [Builtin.zeroCells, Value.cells, Array.getElem_toList, Array.getElem_ofFn]
    have h5 : t % 5 < 5 := Nat.mod_lt _ (by omega)
    have h6 : t % 5 = 0 ∨ t % 5 = 1 ∨ t % 5 = 2 ∨ t % 5 = 3 ∨ t % 5 = 4 := by omega
    rcases h6 with h | h | h | h | h <;> simp [h] <;> rfl
  have hcl : cur.toList.length = cap * 5 := by simpa using hcs
  obtain ⟨cur2, hcur2⟩ : ∃ cur2 : Array Value, cur2 = (cur.toList.take (i * 5 + 0) ++ vs ++ cur.toList.drop (i * 5 + 0 + vs.length)).toArray := ⟨_, rfl⟩
  have hst := run_storeCells_at Try.prog g (i * 5) 30 vs 0 cur w hgg (by rw [hvl, hcs]; omega) hv1
  rw [← hcur2] at hst
  refine ⟨w.setRow g cur2, fun ty => ?_, ⟨?_, Or.inr ⟨g, cap, cur2, rfl, hBg, setRow_heap _ g _ _ _ _ hgg, by omega, hcm, ?_, ?_⟩⟩, below_setRow (Below.refl _ _) hBg _⟩
  · obtain ⟨m, hm⟩ : ∃ m, n - i = m + 1 := ⟨n - i - 1, by omega⟩
    rw [hm] at hvs ⊢
    simp [Builtin.clear_, run_underlying Try.underlying26, Try.zeroValue30, ← hvs, hst]
  · rw [flat_len, List.length_take]; congr 1; omega
  · have := congrArg Array.size hcur2
    simp only [List.size_toArray, List.length_append, List.length_take, List.length_drop, hcl, hvl] at this
    omega
  · rw [hcur2]
    simp only [Nat.add_zero, List.append_assoc]
    rw [List.take_append_of_le_length (by rw [List.length_take, hcl]; omega), List.take_take, Nat.min_self]
    have h7 : cur.toList.take (i * 5) = (flat R).take (i * 5) := by rw [← htk, List.take_take, Nat.min_eq_left (by omega)]
    rw [h7, flat_take R i (by omega)]

set_option maxHeartbeats 8000000 in
theorem deleteF_any (w0 : World) (fn : Nat) (lb : Array Value) (gone : Ar → Bool) (eg : ∀ args w, (callFunc fn args).run Try.prog w = .ok (.enter fn args) w) (hG : GoneAt w0 fn lb gone)
    (b : Option Addr) (l : List Ar) (cap : Nat) (w : World) (ho : w.ownsRow w0.heap.size 30 5 (.slice b l.length cap) l.length (flat l)) (hl : l.length ≤ 100) (hb0 : Below w0.heap.size w0 w) :
    Calls Try.prog 47 #[.slice b l.length cap, .func (.func fn) #[] lb] w fun e w' => ∃ b' c', e = .returned (.slice b' (l.filter (fun x => !gone x)).length c') ∧ ARow w0.heap.size b' c' (l.filter (fun x => !gone x)) w' ∧ Below w0.heap.size w0 w' := by
  have hr := ARow.ofOwn' ho
  have HI := Lib.hid (indexF_any w0 fn lb gone eg hG _ b l cap w hr hl hb0)
  have HG : Hid (∀ W x, Below w0.heap.size w0 W → Calls Try.prog fn (#[arVal x] ++ lb) W (RetW (.bool (gone x)) W)) := fun W x hb => hG W x hb
  have HR := Lib.hid hr
  have HO := Lib.hid ho
  have HB := Lib.hid hb0
  clear hr ho hb0 hG
  go_enter Try.func47, Try.ntmps47
  go_wp2_with fail
  refine HI.out.mono ?_; rintro e w1 ⟨r, rfl, hrc, hb⟩
  replace HO := Lib.hid (ownsRow_below HO.out hb)
  replace HR := Lib.hid (HR.out.below hb)
  replace HB := Lib.hid (HB.out.trans (hb.mono HB.out.size))
  clear hb HI
  rcases hrc with ⟨rfl, hall⟩ | ⟨k0, rfl, hk0, hgk, hall⟩
  · have hfe : l.filter (fun x => !gone x) = l := List.filter_eq_self.2 fun x hx => by
      obtain ⟨t, ht, rfl⟩ := List.mem_iff_getElem.1 hx
      rw [← getD_get ht, hall t ht]; rfl
    have HFE := Lib.hid hfe
    clear hfe hall
    go_wp2_with fail
    go_ret
    exact ⟨b, cap, by rw [HFE.out]; rfl, by rw [HFE.out]; exact HR.out, HB.out⟩
  · obtain ⟨g, rfl, hg0, hg1, hcp, hcm, _⟩ := HR.out.at (by omega)
    have HKP : Hid (l.take k0 = (l.take (k0 + 1)).filter (fun x => !gone x)) := by
      unfold Hid
      rw [take_succ_get hk0, List.filter_append]
      rw [getD_get hk0] at hgk
      rw [List.filter_eq_self.2 (fun x hx => by
        obtain ⟨t, ht, rfl⟩ := List.mem_iff_getElem.1 hx
        have ht2 : t < k0 := by simp at ht; omega
        rw [List.getElem_take, ← getD_get (by omega : t < l.length), hall t ht2]; rfl)]
      simp [hgk]
    clear hall hgk HR
    have hne : ((k0 : Int) == -1) = false := beq_eq_false_iff_ne.2 (by omega)
    have hcap' : (l.length : Int) ≤ cap := by omega
    unfold maxLen at hcm
    generalize hn : l.length = n at *
    have HNL := Lib.hid hn
    clear hn
    go_wp2_with fail
    go_loopw [5, 6] (fun v5 v6 wr => ∃ (i j : Nat) (R : List Ar), v5 = .int .i64 i ∧ v6 = .int .i64 j ∧ i < j ∧ j ≤ n ∧ Hid (R.length = n) ∧ Hid (wr.ownsRow w0.heap.size 30 5 (.slice (some ⟨g, 0, none⟩) n cap) n (flat R)) ∧ Hid (R.take i = (l.take j).filter (fun x => !gone x)) ∧ Hid (∀ t, j ≤ t → t < n → R.getD t Ar.zero = l.getD t Ar.zero) ∧ Hid (Below w0.heap.size w0 wr)) (fun _ v6 _ => 200 - (intOf v6).toNat)
    case atStart => exact ⟨k0, k0 + 1, l, rfl, by go_num, by omega, by omega, HNL, HO, HKP, fun _ _ _ => rfl, HB⟩
    case round =>
      clear HO HB HKP
      obtain ⟨i, j, R, rfl, rfl, hij, hjn, HRL, HO, HTK, HRS, HB⟩ := hrel
      by_cases hlt : j < n
      · have hlt' : (j : Int) < (n : Int) := by omega
        have hil' : (i : Int) < (n : Int) := by omega
        have hr2 := ARow.ofOwn' (by have := HO.out; rw [← HRL.out] at this; exact this)
        obtain ⟨g', e1, _, hgw, _, _, hcl⟩ := hr2.at (by rw [HRL.out]; omega)
        cases e1
        have hcel := hcl j (by rw [HRL.out]; exact hlt)
        have hcel2 := hcl i (by rw [HRL.out]; omega)
        rw [HRS.out j (Nat.le_refl _) hlt] at hcel
        clear hcl hr2
        have HXJ : Hid (∃ x, x = l.getD j Ar.zero) := ⟨_, rfl⟩
        obtain ⟨x, hx⟩ := HXJ.out
        have HX := Lib.hid hx
        rw [← hx] at hcel
        clear hx HXJ
        have HGC := Lib.hid (fun W => HG.out W x)
        have HFT : Hid (gone x = true → (l.take (j + 1)).filter (fun x => !gone x) = (l.take j).filter (fun x => !gone x)) := fun h => by
          rw [take_succ_get (by rw [HNL.out]; exact hlt), List.filter_append, ← getD_get (by rw [HNL.out]; exact hlt), ← HX.out]
          simp [h]
        have HFF : Hid (gone x = false → (l.take (j + 1)).filter (fun x => !gone x) = (l.take j).filter (fun x => !gone x) ++ [x]) := fun h => by
          rw [take_succ_get (by rw [HNL.out]; exact hlt), List.filter_append, ← getD_get (by rw [HNL.out]; exact hlt), ← HX.out]
          simp [h]
        have HSZ := Lib.hid (fun W (hb : Below w0.heap.size w0 W) => hb.size)
        obtain ⟨s, c, f, p, q⟩ := x
        obtain ⟨k0', k1, k2, k3, k4⟩ := hcel
        simp only at k0' k1 k2 k3 k4
        have hbl := Blk.new wr s c f p q
        have HB2 : Hid (Below w0.heap.size w0 (wr.alloc (Obj.cells #[Value.int IntKind.i64 s, Value.int IntKind.i64 c, Value.int IntKind.i64 f, Value.bool p, Value.bool q] 30))) := HB.out.alloc HB.out.size _
        have HO2 := Lib.hid (HO.out.alloc (Obj.cells #[Value.int IntKind.i64 s, Value.int IntKind.i64 c, Value.int IntKind.i64 f, Value.bool p, Value.bool q] 30))
        go_wp2_with fail
        generalize wr.alloc (Obj.cells #[Value.int IntKind.i64 s, Value.int IntKind.i64 c, Value.int IntKind.i64 f, Value.bool p, Value.bool q] 30) = w2 at *
        generalize wr.heap.size = A at *
        clear k0' k1 k2 k3 k4 hcel2
        have hc := HGC.out w2 HB2.out
        generalize gone ⟨s, c, f, p, q⟩ = gb at *
        unfold arVal at hc
        simp only at hc
        have HC := Lib.hid hc
        clear hc HG HGC HB HO
        have hd0 := hbl.c0; have hd1 := hbl.c1; have hd2 := hbl.c2; have hd3 := hbl.c3; have hd4 := hbl.c4
        simp only at hd0 hd1 hd2 hd3 hd4
        cases gb with
        | true =>
          go_wp2_with (go_at_fn fn; refine HC.out.mono ?_; rintro e w3 ⟨rfl, hb⟩)
          have HO3 := Lib.hid (ownsRow_below HO2.out hb)
          have HB3 := Lib.hid (HB2.out.trans (hb.mono HB2.out.size))
          have HT3 : Hid (R.take i = (l.take (j + 1)).filter (fun x => !gone x)) := by unfold Hid; rw [HFT.out (by first | rfl | trivial)]; exact HTK.out
          clear hb
          go_roundw
          case rel => exact ⟨i, j + 1, R, rfl, by go_num, by omega, by omega, HRL, HO3, HT3, fun t h1 h2 => HRS.out t (by omega) h2, HB3⟩
          case measure => simp [intOf]; omega
        | false =>
          go_wp2_with (go_at_fn fn; refine HC.out.mono ?_; rintro e w3 ⟨rfl, hb⟩; have HO3 := Lib.hid (ownsRow_below HO2.out hb); have HB3 := Lib.hid (HB2.out.trans (hb.mono HB2.out.size)); have hbl3 := hbl.below hb; have m0 := hbl3.c0; have m1 := hbl3.c1; have m2 := hbl3.c2; have m3 := hbl3.c3; have m4 := hbl3.c4; simp only at m0 m1 m2 m3 m4; clear hb hbl3; have hfz := HO3.out.frozenAt (i * 5); have hfz1 := HO3.out.frozenAt (i * 5 + 1); have hfz2 := HO3.out.frozenAt (i * 5 + 2); have hfz3 := HO3.out.frozenAt (i * 5 + 3); have hfz4 := HO3.out.frozenAt (i * 5 + 4); obtain ⟨n0, n1, n2, n3, n4⟩ := own_cel (l := R) (by have := HO3.out; rw [← HRL.out] at this; exact this) i (by rw [HRL.out]; omega))
          have HP : Hid ((putAt w3 g (i * 5) s c f p q).ownsRow w0.heap.size 30 5 (.slice (some ⟨g, 0, none⟩) n cap) n (flat (R.set i ⟨s, c, f, p, q⟩))) := own_put HO3.out HRL.out i (by omega) s c f p q
          have HBP : Hid (Below w0.heap.size w0 (putAt w3 g (i * 5) s c f p q)) := HB3.out.trans (putAt_below w3 g (i * 5) s c f p q hg0)
          unfold putAt at HP HBP
          have HT3 : Hid ((R.set i ⟨s, c, f, p, q⟩).take (i + 1) = (l.take (j + 1)).filter (fun x => !gone x)) := by
            unfold Hid
            rw [HFF.out (by first | rfl | trivial), ← HTK.out, take_succ_get (by rw [List.length_set, HRL.out]; omega), List.take_set_of_le (Nat.le_refl _)]
            simp
          have HRS3 : Hid (∀ t, j + 1 ≤ t → t < n → (R.set i ⟨s, c, f, p, q⟩).getD t Ar.zero = l.getD t Ar.zero) := fun t h1 h2 => by
            rw [← HRS.out t (by omega) h2, getD_get (by rw [List.length_set, HRL.out]; exact h2), getD_get (by rw [HRL.out]; exact h2), List.getElem_set_ne (by omega)]
          have HRL3 : Hid ((R.set i ⟨s, c, f, p, q⟩).length = n) := by unfold Hid; rw [List.length_set]; exact HRL.out
          clear hfz hfz1 hfz2 hfz3 hfz4
          go_roundw
          case rel => exact ⟨i + 1, j + 1, R.set i ⟨s, c, f, p, q⟩, by go_num, by go_num, by omega, by omega, HRL3, HP, HT3, HRS3, HBP⟩
          case measure => simp [intOf]; omega
      · obtain rfl : j = n := by omega
        obtain ⟨w9, hcl, ho9, hb9⟩ := clear_own wr w0.heap.size g j cap i R HO.out HRL.out hij
        have HO9 := Lib.hid ho9
        have HB9 := Lib.hid (HB.out.trans hb9)
        have HFL : Hid (l.filter (fun x => !gone x) = R.take i) := by
          unfold Hid
          rw [HTK.out, ← HNL.out, List.take_length]
        have HLN : Hid ((R.take i).length = i) := by unfold Hid; rw [List.length_take, HRL.out]; omega
        clear ho9 hb9 HO
        have hij' : (i : Int) ≤ (j : Int) := by omega
        have hjc : (j : Int) ≤ (cap : Int) := by omega
        have hci : ¬ (cap = i) := by omega
        go_wp2_with fail
        go_ret
        refine ⟨some ⟨g, 0, none⟩, cap, by rw [HFL.out, HLN.out]; rfl, ?_, HB9.out⟩
        rw [HFL.out]
        have h9 := HO9.out
        rw [← HLN.out] at h9
        refine ARow.ofOwn' (l := R.take i) ?_
        have e : (R.take ((R.take i).length)) = R.take i := by rw [HLN.out]
        rw [e] at h9
        exact h9
end Go.Proofs.Ytodonnagmgbliaa
