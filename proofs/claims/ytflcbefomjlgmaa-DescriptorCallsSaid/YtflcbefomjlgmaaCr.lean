/- Check: the document's. -/
import Derived.Test.YtflcbefomjlgmaaCk
set_option linter.unusedSimpArgs false
set_option linter.unusedVariables false
namespace Go.Proofs.Ytflcbefomjlgmaa
open Go.ChangeShapes Go.WideShapes Go.ChangeAt Go.RowKit

def itemR (c : Int) (a : Dn) : Bool := decide (a.rf = c) && (if c = 0 then decide (a = Dn.zero) else rightD a)
theorem itemB_of {c : Int} {a : Dn} (b : Bool) (h : itemR c a = false) : itemB c b a = false := by
  unfold itemR at h; unfold itemB
  by_cases h1 : a.rf = c
  · by_cases h2 : c = 0
    · simp only [h1, h2, decide_true, Bool.true_and, if_true] at h ⊢
      rw [h, Bool.false_and]
    · simp only [h1, h2, decide_true, Bool.true_and, if_false] at h ⊢
      exact h
  · rw [decide_eq_false h1, Bool.false_and]
theorem itemB_on {c : Int} {a : Dn} {b : Bool} (h : itemR c a = true) (hb : c ≠ 0 ∨ b = false) : itemB c b a = true := by
  unfold itemR at h; unfold itemB
  by_cases h1 : a.rf = c
  · by_cases h2 : c = 0
    · simp only [h1, h2, decide_true, Bool.true_and, if_true] at h ⊢
      rcases hb with hb | hb
      · exact absurd h2 hb
      · rw [h, hb]; rfl
    · simp only [h1, h2, decide_true, Bool.true_and, if_false] at h ⊢
      exact h
  · rw [decide_eq_false h1, Bool.false_and] at h
    cases h
theorem items_fin {d : De} (h : ∀ j, j < d.o.length → itemR ((refC d).getD j 0) (d.o.getD j Dn.zero) = true) (hl : d.o.length = 0 ∨ 0 < (refC d).getD (d.o.length - 1) 0) : itemsB d d.o.length = true := by
  unfold itemsB
  rw [List.all_eq_true]
  intro j hj
  have hj' := List.mem_range.1 hj
  refine itemB_on (h j hj') ?_
  by_cases e : j + 1 = d.o.length
  · left
    rcases hl with hl | hl
    · omega
    · rw [show d.o.length - 1 = j from by omega] at hl
      omega
  · exact Or.inr (decide_eq_false e)
theorem items_finF {d : De} (hn : d.o.length ≠ 0) (hl : (refC d).getD (d.o.length - 1) 0 = 0) : checkV d = false := by
  refine items_false (k := d.o.length - 1) (by omega) ?_
  unfold itemB
  rw [hl, if_pos rfl, decide_eq_true (show d.o.length - 1 + 1 = d.o.length from by omega)]
  simp

set_option maxHeartbeats 4000000 in
theorem checkR_any' (x : Dv) (w : World) (h : DIn w x) (ho : x.o.length ≤ 10000) (ht : x.t.length ≤ 1000) :
    Calls Try.prog 24 #[dVal x] w (RetW (.bool (checkV x.pl)) w) := by
  have HR := Lib.hid h.rows
  have HD := Lib.hid h.descs
  have hcap := h.t.cap
  have hcapo := h.o.cap
  have HI : Hid (∀ k, k < x.o.length → itemR ((refC x.pl).getD k 0) (x.o.getD k Dn.zero) = false → checkV x.pl = false) := fun k hk hh => items_false (d := x.pl) hk (itemB_of _ hh)
  have HFI : Hid (refOK x.pl = true → (1 ≤ x.t.length ∧ x.t.length ≤ 8 ∧ x.o.length ≤ 128) → (∀ j, j < x.o.length → itemR ((refC x.pl).getD j 0) (x.o.getD j Dn.zero) = true) → (x.o.length = 0 ∨ 0 < (refC x.pl).getD (x.o.length - 1) 0) → checkV x.pl = true) := fun h1 h2 h3 h4 => by
    unfold checkV
    rw [h1, show x.pl.t.length = x.t.length from List.length_map _, show x.pl.o.length = x.o.length from rfl, decide_eq_true h2, Bool.true_and, Bool.true_and]
    exact items_fin (d := x.pl) h3 h4
  have HFF : Hid (x.o.length ≠ 0 → (refC x.pl).getD (x.o.length - 1) 0 = 0 → checkV x.pl = false) := fun h1 h2 => items_finF (d := x.pl) h1 h2
  have HNL : Hid (¬ (1 ≤ x.t.length ∧ x.t.length ≤ 8 ∧ x.o.length ≤ 128) → checkV x.pl = false) := fun hh => by
    unfold checkV
    rw [show x.pl.t.length = x.t.length from List.length_map _, show x.pl.o.length = x.o.length from rfl, decide_eq_false hh, Bool.and_false, Bool.false_and]
  have HNR : Hid (refOK x.pl = false → checkV x.pl = false) := fun hh => by
    unfold checkV
    rw [hh, Bool.false_and, Bool.false_and]
  have HB : Hid (refOK x.pl = true → ∀ k, k < x.o.length → 0 ≤ (refC x.pl).getD k 0 ∧ (refC x.pl).getD k 0 ≤ 16 * x.t.length) := fun hh k hk => by
    have := refC_bd hh k hk
    rw [show x.pl.t.length = x.t.length from List.length_map _] at this
    exact this
  have HL : Hid ((refC x.pl).length = x.o.length) := cnt_len _ _
  have hRE : refOK x.pl = (x.t.map Tb.l).all (tabB x.o.length) := rfl
  have HCE : Hid (refC x.pl = cntL (x.t.map Tb.l).flatten x.o.length) := rfl
  rw [hRE] at HFI HNR HB
  clear h hRE
  generalize checkV x.pl = cv at *
  generalize refC x.pl = C at *
  unfold dVal
  obtain ⟨oa, oc, o, ta, tc, t⟩ := x
  simp only at HR HD ho ht hcap hcapo HI HFI HFF HNL HNR HB HL HCE
  by_cases hl : 1 ≤ t.length ∧ t.length ≤ 8 ∧ o.length ≤ 128
  · replace HFI := Lib.hid (fun h1 => HFI.out h1 hl)
    obtain ⟨l1, l2, l3⟩ := hl
    have l1' : (1 : Int) ≤ (t.length : Int) := by omega
    have l2' : (t.length : Int) ≤ 8 := by omega
    have l3' : (o.length : Int) ≤ 128 := by omega
    have HC0 : Hid (RefW w (.slice oa o.length oc) (.slice ta t.length tc) ((w.alloc (Obj.cells #[.slice oa o.length oc, .slice ta t.length tc] 29)).alloc (.cells (madeCells #[.int .i64 0] o.length) 3)) (cntL [] o.length)) := RefW.start _ _ _ _
    have hmk := make_run o.length (by omega)
    obtain ⟨Z, hZ⟩ : ∃ Z, Z = madeCells #[Value.int IntKind.i64 0] o.length := ⟨_, rfl⟩
    rw [← hZ] at hmk HC0
    clear hZ
    go_enter Try.func24, Try.ntmps24
    go_wp2_with fail
    clear hmk
    generalize (w.alloc (Obj.cells #[.slice oa o.length oc, .slice ta t.length tc] 29)).alloc (.cells Z 3) = w1 at *
    go_loopw [4] (fun v4 wr => ∃ k : Nat, k ≤ t.length ∧ v4 = .int .i64 k ∧ Hid (((t.map Tb.l).take k).all (tabB o.length) = true) ∧ Hid (RefW w (.slice oa o.length oc) (.slice ta t.length tc) wr (cntL ((t.map Tb.l).take k).flatten o.length))) (fun v4 _ => 2000 - (intOf v4).toNat)
    case atStart => exact ⟨0, Nat.zero_le _, rfl, rfl, HC0⟩
    case round =>
      obtain ⟨k, hk, rfl, HT, HW⟩ := hrel
      by_cases hlt : k < t.length
      · have hlt' : (k : Int) < (t.length : Int) := by omega
        obtain ⟨g, of, rfl, _, _, hcell, _⟩ := HR.out wr HW.out.bel k hlt
        have HCL : Hid (∀ W, Below w.heap.size w W → W.cell? ⟨g, of + k, none⟩ = some (.slice (t.getD k Tb.nil).a (t.getD k Tb.nil).l.length (t.getD k Tb.nil).c)) := fun W hb => by
          obtain ⟨_, _, e1, _, _, e4, _⟩ := HR.out W hb k hlt
          cases e1
          exact e4
        have HN : Hid (∀ W, Below w.heap.size w W → ∀ j, j < (t.getD k Tb.nil).l.length → ∃ g' o', (t.getD k Tb.nil).a = some ⟨g', o', none⟩ ∧ ((t.getD k Tb.nil).l.length : Int) ≤ (t.getD k Tb.nil).c ∧ ((t.getD k Tb.nil).c : Int) ≤ 9223372036854775807 ∧ W.cell? ⟨g', o' + j, none⟩ = some (.int .i64 ((t.getD k Tb.nil).l.getD j 0))) := fun W hb => by
          obtain ⟨_, _, _, _, _, _, hh⟩ := HR.out W hb k hlt
          exact hh
        have hfl := flat_pref (t := t.map Tb.l) (k := k) (by simpa using hlt)
        have htp := tab_pref (m := o.length) (t := t.map Tb.l) (k := k) (by simpa using hlt)
        have htf := tab_false (m := o.length) (t := t.map Tb.l) (k := k) (by simpa using hlt)
        have hbd := flat_bd HT.out
        rw [List.length_take, List.length_map] at hbd
        rw [HT.out, Bool.true_and] at htp
        rw [map_getD _ _ hlt] at hfl htp htf
        generalize t.getD k Tb.nil = y at *
        obtain ⟨ya, yc, yl⟩ := y
        simp only at hfl htp htf hcell HN HCL
        have HFL := Lib.hid hfl
        have HTP := Lib.hid htp
        have HTF : Hid (tabB o.length yl = false → cv = false) := fun hh => HNR.out (htf hh)
        have p0 := HW.out.p0
        have p1 := HW.out.p1
        have hbd2 : ((t.map Tb.l).take k).flatten.length ≤ 16000 := by
          rw [hbd]; omega
        have HBD := Lib.hid hbd2
        clear hfl htp htf hbd hbd2
        generalize ((t.map Tb.l).take k).flatten = L at *
        by_cases h16 : yl.length = 16
        · have h16' : (yl.length : Int) = 16 := by omega
          go_wp2_with fail
          go_loopw [5] (fun v5 wr => ∃ j : Nat, j ≤ 16 ∧ v5 = .int .i64 j ∧ Hid ((yl.take j).all (fun z => decide (0 ≤ z ∧ z ≤ (o.length : Int))) = true) ∧ Hid (RefW w (.slice oa o.length oc) (.slice (some ⟨g, of, none⟩) t.length tc) wr (cntL (L ++ yl.take j) o.length))) (fun v5 _ => 200 - (intOf v5).toNat)
          case atStart => exact ⟨0, Nat.zero_le _, rfl, rfl, by rw [List.take_zero, List.append_nil]; exact HW⟩
          case round => as_aux_lemma =>
            clear HW p0 p1 hcell HT
            obtain ⟨j, hj, rfl, HA, HW⟩ := hrel
            have p0 := HW.out.p0
            have p1 := HW.out.p1
            have hcell := HCL.out _ HW.out.bel
            by_cases hj16 : j < 16
            · have hjl : j < yl.length := by omega
              have hjl' : (j : Int) < 16 := by omega
              obtain ⟨g', o', rfl, hc1, hc2, hnum⟩ := HN.out wr HW.out.bel j hjl
              have htk := take_pref hjl
              have hmem : yl.getD j 0 ∈ yl := by rw [getD_get hjl]; exact List.getElem_mem hjl
              have HTK := Lib.hid htk
              have HMEM := Lib.hid hmem
              clear htk hmem
              generalize yl.getD j 0 = z at *
              have HBAD : Hid (¬ (0 ≤ z ∧ z ≤ (o.length : Int)) → cv = false) := fun hz => HTF.out (by
                unfold tabB
                rw [Bool.and_eq_false_iff]
                exact Or.inr (List.all_eq_false.2 ⟨z, HMEM.out, by simpa using hz⟩))
              by_cases hz : 0 ≤ z ∧ z ≤ (o.length : Int)
              · have HA2 : Hid ((yl.take (j + 1)).all (fun z => decide (0 ≤ z ∧ z ≤ (o.length : Int))) = true) := by
                  rw [Hid, HTK.out, List.all_append, HA.out, Bool.true_and]
                  simpa using hz
                obtain ⟨z1, z2⟩ := hz
                by_cases hz0 : z = 0
                · subst hz0
                  have HW2 := HW.out
                  rw [← cnt_zero, List.append_assoc, ← HTK.out] at HW2
                  replace HW2 := Lib.hid HW2
                  go_wp2_with fail
                  go_roundw
                  case rel => exact ⟨j + 1, by omega, by go_num, HA2, HW2⟩
                  case measure => simp [intOf]; omega
                · obtain ⟨q, hq⟩ : ∃ q : Nat, z = (q : Int) + 1 := ⟨(z - 1).toNat, by omega⟩
                  subst hq
                  have hqm : q < o.length := by omega
                  have hqm' : (q : Int) < (o.length : Int) := by omega
                  have hrd := HW.out.row.cell q _ (ints_at _ q (by rw [cnt_len]; exact hqm))
                  have hfz := HW.out.row.free q (by rw [ints_len, cnt_len]; exact hqm)
                  have hcb := cnt_bd (L ++ yl.take j) o.length q hqm
                  rw [List.length_append, List.length_take] at hcb
                  have hLb := HBD.out
                  have HW2 := HW.out.set q ((cntL (L ++ yl.take j) o.length).getD q 0 + 1)
                  rw [cnt_set _ _ _ hqm, List.append_assoc, ← HTK.out] at HW2
                  replace HW2 := Lib.hid HW2
                  have hc0 : 0 ≤ (cntL (L ++ yl.take j) o.length).getD q 0 := hcb.1
                  have hc9 : (cntL (L ++ yl.take j) o.length).getD q 0 ≤ 17000 := by omega
                  clear hcb
                  generalize (cntL (L ++ yl.take j) o.length).getD q 0 = c at *
                  have hwq : IntKind.i64.wrap ((q : Int) + 1 - 1) = (q : Int) := by
                    rw [show (q : Int) + 1 - 1 = q from by omega]
                    exact IntWalk.i64_in _ (by omega)
                  go_wp2_with fail
                  go_roundw
                  case rel => exact ⟨j + 1, by omega, by go_num, HA2, HW2⟩
                  case measure => simp [intOf]; omega
              · have HF := Lib.hid (HBAD.out hz)
                have HN2 := Lib.hid hz
                clear hz
                go_wp2_with fail
                all_goals first | (exfalso; have := HN2.out; omega) | (go_ret; exact RetW.mk (by rw [HF.out]; try rfl) HW.out.bel)
            · obtain rfl : j = 16 := by omega
              have htt : yl.take 16 = yl := List.take_of_length_le (by omega)
              have hA := HA.out
              rw [htt] at hA
              have htb : tabB o.length yl = true := by
                unfold tabB
                rw [hA, decide_eq_true h16]; rfl
              have HW2 := HW.out
              rw [htt, ← HFL.out] at HW2
              have HT2 := HTP.out
              rw [htb] at HT2
              replace HW2 := Lib.hid HW2
              replace HT2 := Lib.hid HT2
              clear htt hA htb
              go_wp2_with fail
              go_roundw
              case rel => exact ⟨k + 1, by omega, by go_num, HT2, HW2⟩
              case measure => simp [intOf]; omega
        · have h16' : (yl.length : Int) ≠ 16 := by omega
          have HF := Lib.hid (HTF.out (by unfold tabB; rw [decide_eq_false h16]; rfl))
          clear h16
          go_wp2_with fail
          go_ret
          exact RetW.mk (by rw [HF.out]; try rfl) HW.out.bel
      · obtain rfl : k = t.length := by omega
        have htt : (t.map Tb.l).take t.length = t.map Tb.l := List.take_of_length_le (by simp)
        rw [htt] at HT HW
        rw [HT.out] at HFI HB
        rw [← HCE.out] at HW
        clear htt HT HNR HCE HNL HC0 HR
        have p0 := HW.out.p0
        have p1 := HW.out.p1
        have HF : Hid (∀ W, Below wr.heap.size wr W → W.cell? ⟨w.heap.size, 0, none⟩ = some (.slice oa o.length oc) ∧ ∀ k, k < o.length → W.cell? ⟨w.heap.size + 1, k, none⟩ = some (.int .i64 (C.getD k 0))) := fun W hbW =>
          ⟨(hbW.cell (p := ⟨w.heap.size, 0, none⟩) (by have := HW.out.row.hi; show w.heap.size < wr.heap.size; omega)).trans HW.out.p0, fun k hk => (hbW.cell (p := ⟨w.heap.size + 1, k, none⟩) HW.out.row.hi).trans (HW.out.row.cell k _ (ints_at _ k (by rw [HL.out]; exact hk)))⟩
        have HBel := Lib.hid HW.out.bel
        have hsz : w.heap.size + 1 < wr.heap.size := HW.out.row.hi
        clear HW
        generalize wr = w2 at *
        go_wp2_with fail
        clear p0 p1
        go_loopw [7] (fun v7 wr => ∃ k : Nat, k ≤ o.length ∧ v7 = .int .i64 k ∧ Hid (∀ j, j < k → itemR (C.getD j 0) (o.getD j Dn.zero) = true) ∧ Hid (Below w2.heap.size w2 wr)) (fun v7 _ => 300 - (intOf v7).toNat)
        case atStart => exact ⟨0, Nat.zero_le _, rfl, (fun j hj => absurd hj (Nat.not_lt_zero _)), Below.refl _ _⟩
        case round => as_aux_lemma =>
          obtain ⟨k, hk, rfl, HT, HW⟩ := hrel
          have HBW := Lib.hid (HBel.out.trans (HW.out.mono HBel.out.size))
          by_cases hlt : k < o.length
          · have hlt' : (k : Int) < (o.length : Int) := by omega
            obtain ⟨g, of, rfl, _, _, hcel⟩ := HD.out wr HBW.out k hlt
            have HJk : Hid (itemR (C.getD k 0) (o.getD k Dn.zero) = true → ∀ j, j < k + 1 → itemR (C.getD j 0) (o.getD j Dn.zero) = true) := fun hh j hj => by
              by_cases e : j = k
              · rw [e]; exact hh
              · exact HT.out j (by omega)
            have HIk := Lib.hid (HI.out k hlt)
            obtain ⟨cb0, cb1⟩ := HB.out (by first | rfl | trivial) k hlt
            obtain ⟨f0, _⟩ := HF.out _ HW.out
            have hlw : w2.heap.size ≤ wr.heap.size := HW.out.size
            have HT3 : Hid (∀ j, j < k + 1 → itemR (C.getD j 0) (o.getD j Dn.zero) = true) = (∀ j, j < k + 1 → itemR (C.getD j 0) (o.getD j Dn.zero) = true) := rfl
            generalize hTN : (∀ j, j < k + 1 → itemR (C.getD j 0) (o.getD j Dn.zero) = true) = TN at *
            generalize ha : o.getD k Dn.zero = a at HJk HIk hcel
            obtain ⟨fi, fl, f, cu, rf⟩ := a
            obtain ⟨k0, k1, k2, k3, k4⟩ := hcel
            simp only at k0 k1 k2 k3 k4
            go_wp2_with fail
            have hA := DCel.new wr ⟨fi, fl, f, cu, rf⟩
            simp only at hA
            have HB2 : Hid (Below w2.heap.size w2 (wr.alloc (Obj.cells #[Value.int IntKind.i64 fi, Value.int IntKind.i64 fl, Value.int IntKind.i64 f, Value.int IntKind.i64 cu, Value.int IntKind.i64 rf] 34))) := HW.out.alloc HW.out.size _
            have hsA : wr.heap.size < (wr.alloc (Obj.cells #[Value.int IntKind.i64 fi, Value.int IntKind.i64 fl, Value.int IntKind.i64 f, Value.int IntKind.i64 cu, Value.int IntKind.i64 rf] 34)).heap.size := by simp
            clear f0
            obtain ⟨f0, fk⟩ := HF.out _ HB2.out
            replace fk := fk k hlt
            generalize wr.alloc (Obj.cells #[Value.int IntKind.i64 fi, Value.int IntKind.i64 fl, Value.int IntKind.i64 f, Value.int IntKind.i64 cu, Value.int IntKind.i64 rf] 34) = wa at *
            clear HI HB HD HF HW k0 k1 k2 k3 k4 HFI HFF ha HT
            generalize C.getD k 0 = c at *
            generalize wr.heap.size = A at *
            obtain ⟨k0, k1, k2, k3, k4⟩ := hA
            simp only [Nat.zero_add] at k0 k1 k2 k3 k4
            have HBX := Lib.hid (HBel.out.trans (HB2.out.mono HBel.out.size))
            by_cases hrf : rf = c
            · subst hrf
              by_cases hc0 : rf = 0
              · subst hc0
                by_cases hz : fi = 0 ∧ fl = 0 ∧ f = 0 ∧ cu = 0
                · obtain ⟨rfl, rfl, rfl, rfl⟩ := hz
                  have HV := Lib.hid (HJk.out rfl)
                  refine wp_region_held_drew (S := fun w' => w'.cell? ⟨A, 0, none⟩ = some (.int .i64 0) ∧ w'.cell? ⟨A, 1, none⟩ = some (.int .i64 0) ∧ w'.cell? ⟨A, 2, none⟩ = some (.int .i64 0) ∧ w'.cell? ⟨A, 3, none⟩ = some (.int .i64 0) ∧ w'.cell? ⟨A, 4, none⟩ = some (.int .i64 0) ∧ w'.cell? ⟨w.heap.size + 1, k, none⟩ = some (.int .i64 0)) (by kernel_rfl) (by (try dsimp only); go_keep) (fun hHeld => ?_)
                  refine wpAnyH_take (i := 0) (oi := { dst := some 85, op := Op.fieldAddr 34 (Operand.tmp 8) 4, type := 0, pos := "ref.go:33", after := #[], guard := none }) (v := ?_) rfl (by kernel_rfl) (by kernel_rfl) (by kernel_rfl) (fun _ _ _ h => h) (Or.inl ⟨by rfl, ?_⟩) (by assumption) ?_
                  rotate_left
                  focus ((intro w hSw; (try dsimp only at hSw); go_simp) <;> (try with_reducible rfl))
                  try simp only [Act.put, List.setIfInBounds_toArray, List.set_cons_zero, List.set_cons_succ]
                  refine wpAnyH_take (i := 1) (oi := { dst := some 86, op := Op.load 3 (Operand.tmp 85), type := 3, pos := "ref.go:33", after := #[{ on := 0, ground := Ground.data }], guard := none }) (v := ?_) rfl (by kernel_rfl) (by kernel_rfl) (by kernel_rfl) (fun _ _ _ h => h) (Or.inl ⟨by rfl, ?_⟩) (by assumption) ?_
                  rotate_left
                  focus ((intro w hSw; (try dsimp only at hSw); go_simp) <;> (try with_reducible rfl))
                  try simp only [Act.put, List.setIfInBounds_toArray, List.set_cons_zero, List.set_cons_succ]
                  refine wpAnyH_take (i := 2) (oi := { dst := some 87, op := Op.move (Operand.tmp 3), type := 22, pos := "ref.go:33", after := #[], guard := none }) (v := ?_) rfl (by kernel_rfl) (by kernel_rfl) (by kernel_rfl) (fun _ _ _ h => h) (Or.inl ⟨by rfl, ?_⟩) (by assumption) ?_
                  rotate_left
                  focus ((intro w hSw; (try dsimp only at hSw); go_simp) <;> (try with_reducible rfl))
                  try simp only [Act.put, List.setIfInBounds_toArray, List.set_cons_zero, List.set_cons_succ]
                  refine wpAnyH_take (i := 3) (oi := { dst := some 88, op := Op.move (Operand.tmp 7), type := 3, pos := "ref.go:33", after := #[], guard := none }) (v := ?_) rfl (by kernel_rfl) (by kernel_rfl) (by kernel_rfl) (fun _ _ _ h => h) (Or.inl ⟨by rfl, ?_⟩) (by assumption) ?_
                  rotate_left
                  focus ((intro w hSw; (try dsimp only at hSw); go_simp) <;> (try with_reducible rfl))
                  try simp only [Act.put, List.setIfInBounds_toArray, List.set_cons_zero, List.set_cons_succ]
                  refine wpAnyH_take (i := 4) (oi := { dst := some 89, op := Op.indexAddr 22 (Operand.tmp 87) (Operand.tmp 88), type := 0, pos := "ref.go:33", after := #[{ on := 2, ground := Ground.data }, { on := 3, ground := Ground.data }], guard := none }) (v := ?_) rfl (by kernel_rfl) (by kernel_rfl) (by kernel_rfl) (fun _ _ _ h => h) (Or.inl ⟨by rfl, ?_⟩) (by assumption) ?_
                  rotate_left
                  focus ((intro w hSw; (try dsimp only at hSw); go_simp) <;> (try with_reducible rfl))
                  try simp only [Act.put, List.setIfInBounds_toArray, List.set_cons_zero, List.set_cons_succ]
                  refine wpAnyH_take (i := 5) (oi := { dst := some 90, op := Op.load 3 (Operand.tmp 89), type := 3, pos := "ref.go:33", after := #[{ on := 4, ground := Ground.data }], guard := none }) (v := ?_) rfl (by kernel_rfl) (by kernel_rfl) (by kernel_rfl) (fun _ _ _ h => h) (Or.inl ⟨by rfl, ?_⟩) (by assumption) ?_
                  rotate_left
                  focus ((intro w hSw; (try dsimp only at hSw); go_simp) <;> (try with_reducible rfl))
                  try simp only [Act.put, List.setIfInBounds_toArray, List.set_cons_zero, List.set_cons_succ]
                  refine wpAnyH_take (i := 6) (oi := { dst := some 91, op := Op.binOp BinOp.neq 3 (Operand.tmp 86) (Operand.tmp 90) 3, type := 4, pos := "ref.go:33", after := #[{ on := 1, ground := Ground.data }, { on := 5, ground := Ground.data }], guard := none }) (v := ?_) rfl (by kernel_rfl) (by kernel_rfl) (by kernel_rfl) (fun _ _ _ h => h) (Or.inl ⟨by rfl, ?_⟩) (by assumption) ?_
                  rotate_left
                  focus ((intro w hSw; (try dsimp only at hSw); go_simp) <;> (try with_reducible rfl))
                  try simp only [Act.put, List.setIfInBounds_toArray, List.set_cons_zero, List.set_cons_succ]
                  refine wpAnyH_take (i := 7) (oi := { dst := some 92, op := Op.move (Operand.tmp 91), type := 4, pos := "ref.go:33", after := #[{ on := 6, ground := Ground.data }], guard := none }) (v := ?_) rfl (by kernel_rfl) (by kernel_rfl) (by kernel_rfl) (fun _ _ _ h => h) (Or.inl ⟨by rfl, ?_⟩) (by assumption) ?_
                  rotate_left
                  focus ((intro w hSw; (try dsimp only at hSw); go_simp) <;> (try with_reducible rfl))
                  try simp only [Act.put, List.setIfInBounds_toArray, List.set_cons_zero, List.set_cons_succ]
                  refine wpAnyH_take (i := 8) (oi := { dst := some 93, op := Op.move (Operand.tmp 3), type := 22, pos := "ref.go:33", after := #[{ on := 7, ground := Ground.guard }], guard := some (7, false) }) (v := ?_) rfl (by kernel_rfl) (by kernel_rfl) (by kernel_rfl) (fun _ _ _ h => h) (Or.inl ⟨by rfl, ?_⟩) (by assumption) ?_
                  rotate_left
                  focus ((intro w hSw; (try dsimp only at hSw); go_simp) <;> (try with_reducible rfl))
                  try simp only [Act.put, List.setIfInBounds_toArray, List.set_cons_zero, List.set_cons_succ]
                  refine wpAnyH_take (i := 9) (oi := { dst := some 94, op := Op.move (Operand.tmp 7), type := 3, pos := "ref.go:33", after := #[{ on := 7, ground := Ground.guard }], guard := some (7, false) }) (v := ?_) rfl (by kernel_rfl) (by kernel_rfl) (by kernel_rfl) (fun _ _ _ h => h) (Or.inl ⟨by rfl, ?_⟩) (by assumption) ?_
                  rotate_left
                  focus ((intro w hSw; (try dsimp only at hSw); go_simp) <;> (try with_reducible rfl))
                  try simp only [Act.put, List.setIfInBounds_toArray, List.set_cons_zero, List.set_cons_succ]
                  refine wpAnyH_take (i := 10) (oi := { dst := some 95, op := Op.indexAddr 22 (Operand.tmp 93) (Operand.tmp 94), type := 0, pos := "ref.go:33", after := #[{ on := 8, ground := Ground.data }, { on := 9, ground := Ground.data }, { on := 7, ground := Ground.guard }], guard := some (7, false) }) (v := ?_) rfl (by kernel_rfl) (by kernel_rfl) (by kernel_rfl) (fun _ _ _ h => h) (Or.inl ⟨by rfl, ?_⟩) (by assumption) ?_
                  rotate_left
                  focus ((intro w hSw; (try dsimp only at hSw); go_simp) <;> (try with_reducible rfl))
                  try simp only [Act.put, List.setIfInBounds_toArray, List.set_cons_zero, List.set_cons_succ]
                  refine wpAnyH_take (i := 11) (oi := { dst := some 96, op := Op.load 3 (Operand.tmp 95), type := 3, pos := "ref.go:33", after := #[{ on := 10, ground := Ground.data }, { on := 7, ground := Ground.guard }], guard := some (7, false) }) (v := ?_) rfl (by kernel_rfl) (by kernel_rfl) (by kernel_rfl) (fun _ _ _ h => h) (Or.inl ⟨by rfl, ?_⟩) (by assumption) ?_
                  rotate_left
                  focus ((intro w hSw; (try dsimp only at hSw); go_simp) <;> (try with_reducible rfl))
                  try simp only [Act.put, List.setIfInBounds_toArray, List.set_cons_zero, List.set_cons_succ]
                  refine wpAnyH_take (i := 12) (oi := { dst := some 97, op := Op.binOp BinOp.eql 3 (Operand.tmp 96) (Operand.const (Value.int IntKind.i64 0)) 3, type := 4, pos := "ref.go:33", after := #[{ on := 11, ground := Ground.data }, { on := 7, ground := Ground.guard }], guard := some (7, false) }) (v := ?_) rfl (by kernel_rfl) (by kernel_rfl) (by kernel_rfl) (fun _ _ _ h => h) (Or.inl ⟨by rfl, ?_⟩) (by assumption) ?_
                  rotate_left
                  focus ((intro w hSw; (try dsimp only at hSw); go_simp) <;> (try with_reducible rfl))
                  try simp only [Act.put, List.setIfInBounds_toArray, List.set_cons_zero, List.set_cons_succ]
                  refine wpAnyH_take (i := 13) (oi := { dst := some 98, op := Op.move (Operand.tmp 97), type := 4, pos := "ref.go:33", after := #[{ on := 12, ground := Ground.data }, { on := 7, ground := Ground.chain }, { on := 7, ground := Ground.guard }], guard := some (7, false) }) (v := ?_) rfl (by kernel_rfl) (by kernel_rfl) (by kernel_rfl) (fun _ _ _ h => h) (Or.inl ⟨by rfl, ?_⟩) (by assumption) ?_
                  rotate_left
                  focus ((intro w hSw; (try dsimp only at hSw); go_simp) <;> (try with_reducible rfl))
                  try simp only [Act.put, List.setIfInBounds_toArray, List.set_cons_zero, List.set_cons_succ]
                  refine wpAnyH_take (i := 14) (oi := { dst := some 99, op := Op.load 34 (Operand.tmp 8), type := 34, pos := "ref.go:33", after := #[{ on := 13, ground := Ground.guard }], guard := some (13, true) }) (v := ?_) rfl (by kernel_rfl) (by kernel_rfl) (by kernel_rfl) (fun _ _ _ h => h) (Or.inl ⟨by rfl, ?_⟩) (by assumption) ?_
                  rotate_left
                  focus ((intro w hSw; (try dsimp only at hSw); go_simp) <;> (try with_reducible rfl))
                  try simp only [Act.put, List.setIfInBounds_toArray, List.set_cons_zero, List.set_cons_succ]
                  refine wpAnyH_take (i := 15) (oi := { dst := some 100, op := Op.build 34 #[], type := 34, pos := "ref.go:33", after := #[{ on := 13, ground := Ground.guard }], guard := some (13, true) }) (v := ?_) rfl (by kernel_rfl) (by kernel_rfl) (by kernel_rfl) (fun _ _ _ h => h) (Or.inl ⟨by rfl, ?_⟩) (by assumption) ?_
                  rotate_left
                  focus ((intro w hSw; (try dsimp only at hSw); go_simp) <;> (try with_reducible rfl))
                  try simp only [Act.put, List.setIfInBounds_toArray, List.set_cons_zero, List.set_cons_succ]
                  refine wpAnyH_take (i := 16) (oi := { dst := some 101, op := Op.binOp BinOp.neq 34 (Operand.tmp 99) (Operand.tmp 100) 34, type := 4, pos := "ref.go:33", after := #[{ on := 14, ground := Ground.data }, { on := 15, ground := Ground.data }, { on := 13, ground := Ground.guard }], guard := some (13, true) }) (v := ?_) rfl (by kernel_rfl) (by kernel_rfl) (by kernel_rfl) (fun _ _ _ h => h) (Or.inl ⟨by rfl, ?_⟩) (by assumption) ?_
                  rotate_left
                  focus ((intro w hSw; (try dsimp only at hSw); go_simp) <;> (try with_reducible rfl))
                  try simp only [Act.put, List.setIfInBounds_toArray, List.set_cons_zero, List.set_cons_succ]
                  refine wpAnyH_take (i := 17) (oi := { dst := some 102, op := Op.pick (Operand.tmp 98) (Operand.tmp 101) (Operand.const (Value.bool false)), type := 4, pos := "ref.go:33", after := #[{ on := 13, ground := Ground.data }, { on := 16, ground := Ground.data }, { on := 7, ground := Ground.guard }], guard := some (7, false) }) (v := ?_) rfl (by kernel_rfl) (by kernel_rfl) (by kernel_rfl) (fun _ _ _ h => h) (Or.inl ⟨by rfl, ?_⟩) (by assumption) ?_
                  rotate_left
                  focus ((intro w hSw; (try dsimp only at hSw); go_simp) <;> (try with_reducible rfl))
                  try simp only [Act.put, List.setIfInBounds_toArray, List.set_cons_zero, List.set_cons_succ]
                  refine wpAnyH_take (i := 18) (oi := { dst := some 103, op := Op.pick (Operand.tmp 92) (Operand.const (Value.bool true)) (Operand.tmp 102), type := 4, pos := "ref.go:33", after := #[{ on := 7, ground := Ground.data }, { on := 17, ground := Ground.data }], guard := none }) (v := ?_) rfl (by kernel_rfl) (by kernel_rfl) (by kernel_rfl) (fun _ _ _ h => h) (Or.inl ⟨by rfl, ?_⟩) (by assumption) ?_
                  rotate_left
                  focus ((intro w hSw; (try dsimp only at hSw); go_simp) <;> (try with_reducible rfl))
                  try simp only [Act.put, List.setIfInBounds_toArray, List.set_cons_zero, List.set_cons_succ]
                  refine wpAnyH_take (i := 19) (oi := { dst := some 104, op := Op.move (Operand.tmp 103), type := 4, pos := "ref.go:33", after := #[{ on := 18, ground := Ground.data }, { on := 13, ground := Ground.chain }], guard := none }) (v := ?_) rfl (by kernel_rfl) (by kernel_rfl) (by kernel_rfl) (fun _ _ _ h => h) (Or.inl ⟨by rfl, ?_⟩) (by assumption) ?_
                  rotate_left
                  focus ((intro w hSw; (try dsimp only at hSw); go_simp) <;> (try with_reducible rfl))
                  try simp only [Act.put, List.setIfInBounds_toArray, List.set_cons_zero, List.set_cons_succ]
                  refine wpAnyH_take (i := 20) (oi := { dst := some 105, op := Op.move (Operand.tmp 3), type := 22, pos := "ref.go:33", after := #[{ on := 19, ground := Ground.guard }], guard := some (19, false) }) (v := ?_) rfl (by kernel_rfl) (by kernel_rfl) (by kernel_rfl) (fun _ _ _ h => h) (Or.inl ⟨by rfl, ?_⟩) (by assumption) ?_
                  rotate_left
                  focus ((intro w hSw; (try dsimp only at hSw); go_simp) <;> (try with_reducible rfl))
                  try simp only [Act.put, List.setIfInBounds_toArray, List.set_cons_zero, List.set_cons_succ]
                  refine wpAnyH_take (i := 21) (oi := { dst := some 106, op := Op.move (Operand.tmp 7), type := 3, pos := "ref.go:33", after := #[{ on := 19, ground := Ground.guard }], guard := some (19, false) }) (v := ?_) rfl (by kernel_rfl) (by kernel_rfl) (by kernel_rfl) (fun _ _ _ h => h) (Or.inl ⟨by rfl, ?_⟩) (by assumption) ?_
                  rotate_left
                  focus ((intro w hSw; (try dsimp only at hSw); go_simp) <;> (try with_reducible rfl))
                  try simp only [Act.put, List.setIfInBounds_toArray, List.set_cons_zero, List.set_cons_succ]
                  refine wpAnyH_take (i := 22) (oi := { dst := some 107, op := Op.indexAddr 22 (Operand.tmp 105) (Operand.tmp 106), type := 0, pos := "ref.go:33", after := #[{ on := 20, ground := Ground.data }, { on := 21, ground := Ground.data }, { on := 19, ground := Ground.guard }], guard := some (19, false) }) (v := ?_) rfl (by kernel_rfl) (by kernel_rfl) (by kernel_rfl) (fun _ _ _ h => h) (Or.inl ⟨by rfl, ?_⟩) (by assumption) ?_
                  rotate_left
                  focus ((intro w hSw; (try dsimp only at hSw); go_simp) <;> (try with_reducible rfl))
                  try simp only [Act.put, List.setIfInBounds_toArray, List.set_cons_zero, List.set_cons_succ]
                  refine wpAnyH_take (i := 23) (oi := { dst := some 108, op := Op.load 3 (Operand.tmp 107), type := 3, pos := "ref.go:33", after := #[{ on := 22, ground := Ground.data }, { on := 19, ground := Ground.guard }], guard := some (19, false) }) (v := ?_) rfl (by kernel_rfl) (by kernel_rfl) (by kernel_rfl) (fun _ _ _ h => h) (Or.inl ⟨by rfl, ?_⟩) (by assumption) ?_
                  rotate_left
                  focus ((intro w hSw; (try dsimp only at hSw); go_simp) <;> (try with_reducible rfl))
                  try simp only [Act.put, List.setIfInBounds_toArray, List.set_cons_zero, List.set_cons_succ]
                  refine wpAnyH_take (i := 24) (oi := { dst := some 109, op := Op.binOp BinOp.gtr 3 (Operand.tmp 108) (Operand.const (Value.int IntKind.i64 0)) 3, type := 4, pos := "ref.go:33", after := #[{ on := 23, ground := Ground.data }, { on := 19, ground := Ground.guard }], guard := some (19, false) }) (v := ?_) rfl (by kernel_rfl) (by kernel_rfl) (by kernel_rfl) (fun _ _ _ h => h) (Or.inl ⟨by rfl, ?_⟩) (by assumption) ?_
                  rotate_left
                  focus ((intro w hSw; (try dsimp only at hSw); go_simp) <;> (try with_reducible rfl))
                  try simp only [Act.put, List.setIfInBounds_toArray, List.set_cons_zero, List.set_cons_succ]
                  refine wpAnyH_take (i := 25) (oi := { dst := some 110, op := Op.move (Operand.tmp 109), type := 4, pos := "ref.go:33", after := #[{ on := 24, ground := Ground.data }, { on := 19, ground := Ground.chain }, { on := 19, ground := Ground.guard }], guard := some (19, false) }) (v := ?_) rfl (by kernel_rfl) (by kernel_rfl) (by kernel_rfl) (fun _ _ _ h => h) (Or.inl ⟨by rfl, ?_⟩) (by assumption) ?_
                  rotate_left
                  focus ((intro w hSw; (try dsimp only at hSw); go_simp) <;> (try with_reducible rfl))
                  try simp only [Act.put, List.setIfInBounds_toArray, List.set_cons_zero, List.set_cons_succ]
                  refine wpAnyH_take (i := 26) (oi := { dst := some 111, op := Op.load 34 (Operand.tmp 8), type := 34, pos := "ref.go:33", after := #[{ on := 25, ground := Ground.guard }], guard := some (25, true) }) (v := undef) rfl (by kernel_rfl) (by kernel_rfl) (by kernel_rfl) (fun _ _ _ h => h) (Or.inr ⟨by rfl, rfl⟩) (by assumption) ?_
                  try simp only [Act.put, List.setIfInBounds_toArray, List.set_cons_zero, List.set_cons_succ]
                  refine wpAnyH_take (i := 27) (oi := { dst := some 112, op := Op.call { callee := Callee.value (Operand.func 37), args := #[Operand.tmp 111], argTypes := #[34] }, type := 4, pos := "ref.go:33", after := #[{ on := 26, ground := Ground.data }, { on := 25, ground := Ground.chain }, { on := 25, ground := Ground.guard }], guard := some (25, true) }) (v := undef) rfl (by kernel_rfl) (by kernel_rfl) (by kernel_rfl) (fun _ _ _ h => h) (Or.inr ⟨by rfl, rfl⟩) (by assumption) ?_
                  try simp only [Act.put, List.setIfInBounds_toArray, List.set_cons_zero, List.set_cons_succ]
                  refine wpAnyH_take (i := 28) (oi := { dst := some 113, op := Op.unOp UnOp.not 4 (Operand.tmp 112), type := 4, pos := "ref.go:33", after := #[{ on := 27, ground := Ground.data }, { on := 25, ground := Ground.guard }], guard := some (25, true) }) (v := undef) rfl (by kernel_rfl) (by kernel_rfl) (by kernel_rfl) (fun _ _ _ h => h) (Or.inr ⟨by rfl, rfl⟩) (by assumption) ?_
                  try simp only [Act.put, List.setIfInBounds_toArray, List.set_cons_zero, List.set_cons_succ]
                  refine wpAnyH_take (i := 29) (oi := { dst := some 114, op := Op.pick (Operand.tmp 110) (Operand.tmp 113) (Operand.const (Value.bool false)), type := 4, pos := "ref.go:33", after := #[{ on := 25, ground := Ground.data }, { on := 28, ground := Ground.data }, { on := 19, ground := Ground.guard }], guard := some (19, false) }) (v := ?_) rfl (by kernel_rfl) (by kernel_rfl) (by kernel_rfl) (fun _ _ _ h => h) (Or.inl ⟨by rfl, ?_⟩) (by assumption) ?_
                  rotate_left
                  focus ((intro w hSw; (try dsimp only at hSw); go_simp) <;> (try with_reducible rfl))
                  try simp only [Act.put, List.setIfInBounds_toArray, List.set_cons_zero, List.set_cons_succ]
                  refine wpAnyH_take (i := 30) (oi := { dst := some 115, op := Op.pick (Operand.tmp 104) (Operand.const (Value.bool true)) (Operand.tmp 114), type := 4, pos := "ref.go:33", after := #[{ on := 19, ground := Ground.data }, { on := 29, ground := Ground.data }], guard := none }) (v := ?_) rfl (by kernel_rfl) (by kernel_rfl) (by kernel_rfl) (fun _ _ _ h => h) (Or.inl ⟨by rfl, ?_⟩) (by assumption) ?_
                  rotate_left
                  focus ((intro w hSw; (try dsimp only at hSw); go_simp) <;> (try with_reducible rfl))
                  try simp only [Act.put, List.setIfInBounds_toArray, List.set_cons_zero, List.set_cons_succ]
                  refine wpAnyH_done (by kernel_rfl) ?_ _
                  go_wp2_with fail
                  go_roundw
                  case rel => exact ⟨k + 1, by omega, by go_num, (by rw [hTN]; exact HV), HB2.out.drew⟩
                  case measure => simp [intOf]; omega
                · have HV := Lib.hid (HIk.out (by
                    unfold itemR
                    rw [if_pos rfl, decide_eq_false (show ¬ ((⟨fi, fl, f, cu, 0⟩ : Dn) = Dn.zero) from fun e => hz (by cases e; exact ⟨rfl, rfl, rfl, rfl⟩)), Bool.and_false]))
                  have HN := Lib.hid hz
                  clear hz
                  by_cases hn0 : fi = 0
                  rotate_left
                  ·
                    refine wp_region_held_drew (S := fun w' => w'.cell? ⟨A, 0, none⟩ = some (.int .i64 fi) ∧ w'.cell? ⟨A, 1, none⟩ = some (.int .i64 fl) ∧ w'.cell? ⟨A, 2, none⟩ = some (.int .i64 f) ∧ w'.cell? ⟨A, 3, none⟩ = some (.int .i64 cu) ∧ w'.cell? ⟨A, 4, none⟩ = some (.int .i64 0) ∧ w'.cell? ⟨w.heap.size + 1, k, none⟩ = some (.int .i64 0)) (by kernel_rfl) (by (try dsimp only); go_keep) (fun hHeld => ?_)
                    refine wpAnyH_take (i := 0) (oi := { dst := some 85, op := Op.fieldAddr 34 (Operand.tmp 8) 4, type := 0, pos := "ref.go:33", after := #[], guard := none }) (v := ?_) rfl (by kernel_rfl) (by kernel_rfl) (by kernel_rfl) (fun _ _ _ h => h) (Or.inl ⟨by rfl, ?_⟩) (by assumption) ?_
                    rotate_left
                    focus ((intro w hSw; (try dsimp only at hSw); go_simp) <;> (try with_reducible rfl))
                    try simp only [Act.put, List.setIfInBounds_toArray, List.set_cons_zero, List.set_cons_succ]
                    refine wpAnyH_take (i := 1) (oi := { dst := some 86, op := Op.load 3 (Operand.tmp 85), type := 3, pos := "ref.go:33", after := #[{ on := 0, ground := Ground.data }], guard := none }) (v := ?_) rfl (by kernel_rfl) (by kernel_rfl) (by kernel_rfl) (fun _ _ _ h => h) (Or.inl ⟨by rfl, ?_⟩) (by assumption) ?_
                    rotate_left
                    focus ((intro w hSw; (try dsimp only at hSw); go_simp) <;> (try with_reducible rfl))
                    try simp only [Act.put, List.setIfInBounds_toArray, List.set_cons_zero, List.set_cons_succ]
                    refine wpAnyH_take (i := 2) (oi := { dst := some 87, op := Op.move (Operand.tmp 3), type := 22, pos := "ref.go:33", after := #[], guard := none }) (v := ?_) rfl (by kernel_rfl) (by kernel_rfl) (by kernel_rfl) (fun _ _ _ h => h) (Or.inl ⟨by rfl, ?_⟩) (by assumption) ?_
                    rotate_left
                    focus ((intro w hSw; (try dsimp only at hSw); go_simp) <;> (try with_reducible rfl))
                    try simp only [Act.put, List.setIfInBounds_toArray, List.set_cons_zero, List.set_cons_succ]
                    refine wpAnyH_take (i := 3) (oi := { dst := some 88, op := Op.move (Operand.tmp 7), type := 3, pos := "ref.go:33", after := #[], guard := none }) (v := ?_) rfl (by kernel_rfl) (by kernel_rfl) (by kernel_rfl) (fun _ _ _ h => h) (Or.inl ⟨by rfl, ?_⟩) (by assumption) ?_
                    rotate_left
                    focus ((intro w hSw; (try dsimp only at hSw); go_simp) <;> (try with_reducible rfl))
                    try simp only [Act.put, List.setIfInBounds_toArray, List.set_cons_zero, List.set_cons_succ]
                    refine wpAnyH_take (i := 4) (oi := { dst := some 89, op := Op.indexAddr 22 (Operand.tmp 87) (Operand.tmp 88), type := 0, pos := "ref.go:33", after := #[{ on := 2, ground := Ground.data }, { on := 3, ground := Ground.data }], guard := none }) (v := ?_) rfl (by kernel_rfl) (by kernel_rfl) (by kernel_rfl) (fun _ _ _ h => h) (Or.inl ⟨by rfl, ?_⟩) (by assumption) ?_
                    rotate_left
                    focus ((intro w hSw; (try dsimp only at hSw); go_simp) <;> (try with_reducible rfl))
                    try simp only [Act.put, List.setIfInBounds_toArray, List.set_cons_zero, List.set_cons_succ]
                    refine wpAnyH_take (i := 5) (oi := { dst := some 90, op := Op.load 3 (Operand.tmp 89), type := 3, pos := "ref.go:33", after := #[{ on := 4, ground := Ground.data }], guard := none }) (v := ?_) rfl (by kernel_rfl) (by kernel_rfl) (by kernel_rfl) (fun _ _ _ h => h) (Or.inl ⟨by rfl, ?_⟩) (by assumption) ?_
                    rotate_left
                    focus ((intro w hSw; (try dsimp only at hSw); go_simp) <;> (try with_reducible rfl))
                    try simp only [Act.put, List.setIfInBounds_toArray, List.set_cons_zero, List.set_cons_succ]
                    refine wpAnyH_take (i := 6) (oi := { dst := some 91, op := Op.binOp BinOp.neq 3 (Operand.tmp 86) (Operand.tmp 90) 3, type := 4, pos := "ref.go:33", after := #[{ on := 1, ground := Ground.data }, { on := 5, ground := Ground.data }], guard := none }) (v := ?_) rfl (by kernel_rfl) (by kernel_rfl) (by kernel_rfl) (fun _ _ _ h => h) (Or.inl ⟨by rfl, ?_⟩) (by assumption) ?_
                    rotate_left
                    focus ((intro w hSw; (try dsimp only at hSw); go_simp) <;> (try with_reducible rfl))
                    try simp only [Act.put, List.setIfInBounds_toArray, List.set_cons_zero, List.set_cons_succ]
                    refine wpAnyH_take (i := 7) (oi := { dst := some 92, op := Op.move (Operand.tmp 91), type := 4, pos := "ref.go:33", after := #[{ on := 6, ground := Ground.data }], guard := none }) (v := ?_) rfl (by kernel_rfl) (by kernel_rfl) (by kernel_rfl) (fun _ _ _ h => h) (Or.inl ⟨by rfl, ?_⟩) (by assumption) ?_
                    rotate_left
                    focus ((intro w hSw; (try dsimp only at hSw); go_simp) <;> (try with_reducible rfl))
                    try simp only [Act.put, List.setIfInBounds_toArray, List.set_cons_zero, List.set_cons_succ]
                    refine wpAnyH_take (i := 8) (oi := { dst := some 93, op := Op.move (Operand.tmp 3), type := 22, pos := "ref.go:33", after := #[{ on := 7, ground := Ground.guard }], guard := some (7, false) }) (v := ?_) rfl (by kernel_rfl) (by kernel_rfl) (by kernel_rfl) (fun _ _ _ h => h) (Or.inl ⟨by rfl, ?_⟩) (by assumption) ?_
                    rotate_left
                    focus ((intro w hSw; (try dsimp only at hSw); go_simp) <;> (try with_reducible rfl))
                    try simp only [Act.put, List.setIfInBounds_toArray, List.set_cons_zero, List.set_cons_succ]
                    refine wpAnyH_take (i := 9) (oi := { dst := some 94, op := Op.move (Operand.tmp 7), type := 3, pos := "ref.go:33", after := #[{ on := 7, ground := Ground.guard }], guard := some (7, false) }) (v := ?_) rfl (by kernel_rfl) (by kernel_rfl) (by kernel_rfl) (fun _ _ _ h => h) (Or.inl ⟨by rfl, ?_⟩) (by assumption) ?_
                    rotate_left
                    focus ((intro w hSw; (try dsimp only at hSw); go_simp) <;> (try with_reducible rfl))
                    try simp only [Act.put, List.setIfInBounds_toArray, List.set_cons_zero, List.set_cons_succ]
                    refine wpAnyH_take (i := 10) (oi := { dst := some 95, op := Op.indexAddr 22 (Operand.tmp 93) (Operand.tmp 94), type := 0, pos := "ref.go:33", after := #[{ on := 8, ground := Ground.data }, { on := 9, ground := Ground.data }, { on := 7, ground := Ground.guard }], guard := some (7, false) }) (v := ?_) rfl (by kernel_rfl) (by kernel_rfl) (by kernel_rfl) (fun _ _ _ h => h) (Or.inl ⟨by rfl, ?_⟩) (by assumption) ?_
                    rotate_left
                    focus ((intro w hSw; (try dsimp only at hSw); go_simp) <;> (try with_reducible rfl))
                    try simp only [Act.put, List.setIfInBounds_toArray, List.set_cons_zero, List.set_cons_succ]
                    refine wpAnyH_take (i := 11) (oi := { dst := some 96, op := Op.load 3 (Operand.tmp 95), type := 3, pos := "ref.go:33", after := #[{ on := 10, ground := Ground.data }, { on := 7, ground := Ground.guard }], guard := some (7, false) }) (v := ?_) rfl (by kernel_rfl) (by kernel_rfl) (by kernel_rfl) (fun _ _ _ h => h) (Or.inl ⟨by rfl, ?_⟩) (by assumption) ?_
                    rotate_left
                    focus ((intro w hSw; (try dsimp only at hSw); go_simp) <;> (try with_reducible rfl))
                    try simp only [Act.put, List.setIfInBounds_toArray, List.set_cons_zero, List.set_cons_succ]
                    refine wpAnyH_take (i := 12) (oi := { dst := some 97, op := Op.binOp BinOp.eql 3 (Operand.tmp 96) (Operand.const (Value.int IntKind.i64 0)) 3, type := 4, pos := "ref.go:33", after := #[{ on := 11, ground := Ground.data }, { on := 7, ground := Ground.guard }], guard := some (7, false) }) (v := ?_) rfl (by kernel_rfl) (by kernel_rfl) (by kernel_rfl) (fun _ _ _ h => h) (Or.inl ⟨by rfl, ?_⟩) (by assumption) ?_
                    rotate_left
                    focus ((intro w hSw; (try dsimp only at hSw); go_simp) <;> (try with_reducible rfl))
                    try simp only [Act.put, List.setIfInBounds_toArray, List.set_cons_zero, List.set_cons_succ]
                    refine wpAnyH_take (i := 13) (oi := { dst := some 98, op := Op.move (Operand.tmp 97), type := 4, pos := "ref.go:33", after := #[{ on := 12, ground := Ground.data }, { on := 7, ground := Ground.chain }, { on := 7, ground := Ground.guard }], guard := some (7, false) }) (v := ?_) rfl (by kernel_rfl) (by kernel_rfl) (by kernel_rfl) (fun _ _ _ h => h) (Or.inl ⟨by rfl, ?_⟩) (by assumption) ?_
                    rotate_left
                    focus ((intro w hSw; (try dsimp only at hSw); go_simp) <;> (try with_reducible rfl))
                    try simp only [Act.put, List.setIfInBounds_toArray, List.set_cons_zero, List.set_cons_succ]
                    refine wpAnyH_take (i := 14) (oi := { dst := some 99, op := Op.load 34 (Operand.tmp 8), type := 34, pos := "ref.go:33", after := #[{ on := 13, ground := Ground.guard }], guard := some (13, true) }) (v := ?_) rfl (by kernel_rfl) (by kernel_rfl) (by kernel_rfl) (fun _ _ _ h => h) (Or.inl ⟨by rfl, ?_⟩) (by assumption) ?_
                    rotate_left
                    focus ((intro w hSw; (try dsimp only at hSw); go_simp) <;> (try with_reducible rfl))
                    try simp only [Act.put, List.setIfInBounds_toArray, List.set_cons_zero, List.set_cons_succ]
                    refine wpAnyH_take (i := 15) (oi := { dst := some 100, op := Op.build 34 #[], type := 34, pos := "ref.go:33", after := #[{ on := 13, ground := Ground.guard }], guard := some (13, true) }) (v := ?_) rfl (by kernel_rfl) (by kernel_rfl) (by kernel_rfl) (fun _ _ _ h => h) (Or.inl ⟨by rfl, ?_⟩) (by assumption) ?_
                    rotate_left
                    focus ((intro w hSw; (try dsimp only at hSw); go_simp) <;> (try with_reducible rfl))
                    try simp only [Act.put, List.setIfInBounds_toArray, List.set_cons_zero, List.set_cons_succ]
                    refine wpAnyH_take (i := 16) (oi := { dst := some 101, op := Op.binOp BinOp.neq 34 (Operand.tmp 99) (Operand.tmp 100) 34, type := 4, pos := "ref.go:33", after := #[{ on := 14, ground := Ground.data }, { on := 15, ground := Ground.data }, { on := 13, ground := Ground.guard }], guard := some (13, true) }) (v := ?_) rfl (by kernel_rfl) (by kernel_rfl) (by kernel_rfl) (fun _ _ _ h => h) (Or.inl ⟨by rfl, ?_⟩) (by assumption) ?_
                    rotate_left
                    focus ((intro w hSw; (try dsimp only at hSw); go_simp) <;> (try with_reducible rfl))
                    try simp only [Act.put, List.setIfInBounds_toArray, List.set_cons_zero, List.set_cons_succ]
                    refine wpAnyH_take (i := 17) (oi := { dst := some 102, op := Op.pick (Operand.tmp 98) (Operand.tmp 101) (Operand.const (Value.bool false)), type := 4, pos := "ref.go:33", after := #[{ on := 13, ground := Ground.data }, { on := 16, ground := Ground.data }, { on := 7, ground := Ground.guard }], guard := some (7, false) }) (v := ?_) rfl (by kernel_rfl) (by kernel_rfl) (by kernel_rfl) (fun _ _ _ h => h) (Or.inl ⟨by rfl, ?_⟩) (by assumption) ?_
                    rotate_left
                    focus ((intro w hSw; (try dsimp only at hSw); go_simp) <;> (try with_reducible rfl))
                    try simp only [Act.put, List.setIfInBounds_toArray, List.set_cons_zero, List.set_cons_succ]
                    refine wpAnyH_take (i := 18) (oi := { dst := some 103, op := Op.pick (Operand.tmp 92) (Operand.const (Value.bool true)) (Operand.tmp 102), type := 4, pos := "ref.go:33", after := #[{ on := 7, ground := Ground.data }, { on := 17, ground := Ground.data }], guard := none }) (v := ?_) rfl (by kernel_rfl) (by kernel_rfl) (by kernel_rfl) (fun _ _ _ h => h) (Or.inl ⟨by rfl, ?_⟩) (by assumption) ?_
                    rotate_left
                    focus ((intro w hSw; (try dsimp only at hSw); go_simp) <;> (try with_reducible rfl))
                    try simp only [Act.put, List.setIfInBounds_toArray, List.set_cons_zero, List.set_cons_succ]
                    refine wpAnyH_take (i := 19) (oi := { dst := some 104, op := Op.move (Operand.tmp 103), type := 4, pos := "ref.go:33", after := #[{ on := 18, ground := Ground.data }, { on := 13, ground := Ground.chain }], guard := none }) (v := ?_) rfl (by kernel_rfl) (by kernel_rfl) (by kernel_rfl) (fun _ _ _ h => h) (Or.inl ⟨by rfl, ?_⟩) (by assumption) ?_
                    rotate_left
                    focus ((intro w hSw; (try dsimp only at hSw); go_simp) <;> (try with_reducible rfl))
                    try simp only [Act.put, List.setIfInBounds_toArray, List.set_cons_zero, List.set_cons_succ]
                    refine wpAnyH_take (i := 20) (oi := { dst := some 105, op := Op.move (Operand.tmp 3), type := 22, pos := "ref.go:33", after := #[{ on := 19, ground := Ground.guard }], guard := some (19, false) }) (v := undef) rfl (by kernel_rfl) (by kernel_rfl) (by kernel_rfl) (fun _ _ _ h => h) (Or.inr ⟨by rfl, rfl⟩) (by assumption) ?_
                    try simp only [Act.put, List.setIfInBounds_toArray, List.set_cons_zero, List.set_cons_succ]
                    refine wpAnyH_take (i := 21) (oi := { dst := some 106, op := Op.move (Operand.tmp 7), type := 3, pos := "ref.go:33", after := #[{ on := 19, ground := Ground.guard }], guard := some (19, false) }) (v := undef) rfl (by kernel_rfl) (by kernel_rfl) (by kernel_rfl) (fun _ _ _ h => h) (Or.inr ⟨by rfl, rfl⟩) (by assumption) ?_
                    try simp only [Act.put, List.setIfInBounds_toArray, List.set_cons_zero, List.set_cons_succ]
                    refine wpAnyH_take (i := 22) (oi := { dst := some 107, op := Op.indexAddr 22 (Operand.tmp 105) (Operand.tmp 106), type := 0, pos := "ref.go:33", after := #[{ on := 20, ground := Ground.data }, { on := 21, ground := Ground.data }, { on := 19, ground := Ground.guard }], guard := some (19, false) }) (v := undef) rfl (by kernel_rfl) (by kernel_rfl) (by kernel_rfl) (fun _ _ _ h => h) (Or.inr ⟨by rfl, rfl⟩) (by assumption) ?_
                    try simp only [Act.put, List.setIfInBounds_toArray, List.set_cons_zero, List.set_cons_succ]
                    refine wpAnyH_take (i := 23) (oi := { dst := some 108, op := Op.load 3 (Operand.tmp 107), type := 3, pos := "ref.go:33", after := #[{ on := 22, ground := Ground.data }, { on := 19, ground := Ground.guard }], guard := some (19, false) }) (v := undef) rfl (by kernel_rfl) (by kernel_rfl) (by kernel_rfl) (fun _ _ _ h => h) (Or.inr ⟨by rfl, rfl⟩) (by assumption) ?_
                    try simp only [Act.put, List.setIfInBounds_toArray, List.set_cons_zero, List.set_cons_succ]
                    refine wpAnyH_take (i := 24) (oi := { dst := some 109, op := Op.binOp BinOp.gtr 3 (Operand.tmp 108) (Operand.const (Value.int IntKind.i64 0)) 3, type := 4, pos := "ref.go:33", after := #[{ on := 23, ground := Ground.data }, { on := 19, ground := Ground.guard }], guard := some (19, false) }) (v := undef) rfl (by kernel_rfl) (by kernel_rfl) (by kernel_rfl) (fun _ _ _ h => h) (Or.inr ⟨by rfl, rfl⟩) (by assumption) ?_
                    try simp only [Act.put, List.setIfInBounds_toArray, List.set_cons_zero, List.set_cons_succ]
                    refine wpAnyH_take (i := 25) (oi := { dst := some 110, op := Op.move (Operand.tmp 109), type := 4, pos := "ref.go:33", after := #[{ on := 24, ground := Ground.data }, { on := 19, ground := Ground.chain }, { on := 19, ground := Ground.guard }], guard := some (19, false) }) (v := undef) rfl (by kernel_rfl) (by kernel_rfl) (by kernel_rfl) (fun _ _ _ h => h) (Or.inr ⟨by rfl, rfl⟩) (by assumption) ?_
                    try simp only [Act.put, List.setIfInBounds_toArray, List.set_cons_zero, List.set_cons_succ]
                    refine wpAnyH_take (i := 26) (oi := { dst := some 111, op := Op.load 34 (Operand.tmp 8), type := 34, pos := "ref.go:33", after := #[{ on := 25, ground := Ground.guard }], guard := some (25, true) }) (v := undef) rfl (by kernel_rfl) (by kernel_rfl) (by kernel_rfl) (fun _ _ _ h => h) (Or.inr ⟨by rfl, rfl⟩) (by assumption) ?_
                    try simp only [Act.put, List.setIfInBounds_toArray, List.set_cons_zero, List.set_cons_succ]
                    refine wpAnyH_take (i := 27) (oi := { dst := some 112, op := Op.call { callee := Callee.value (Operand.func 37), args := #[Operand.tmp 111], argTypes := #[34] }, type := 4, pos := "ref.go:33", after := #[{ on := 26, ground := Ground.data }, { on := 25, ground := Ground.chain }, { on := 25, ground := Ground.guard }], guard := some (25, true) }) (v := undef) rfl (by kernel_rfl) (by kernel_rfl) (by kernel_rfl) (fun _ _ _ h => h) (Or.inr ⟨by rfl, rfl⟩) (by assumption) ?_
                    try simp only [Act.put, List.setIfInBounds_toArray, List.set_cons_zero, List.set_cons_succ]
                    refine wpAnyH_take (i := 28) (oi := { dst := some 113, op := Op.unOp UnOp.not 4 (Operand.tmp 112), type := 4, pos := "ref.go:33", after := #[{ on := 27, ground := Ground.data }, { on := 25, ground := Ground.guard }], guard := some (25, true) }) (v := undef) rfl (by kernel_rfl) (by kernel_rfl) (by kernel_rfl) (fun _ _ _ h => h) (Or.inr ⟨by rfl, rfl⟩) (by assumption) ?_
                    try simp only [Act.put, List.setIfInBounds_toArray, List.set_cons_zero, List.set_cons_succ]
                    refine wpAnyH_take (i := 29) (oi := { dst := some 114, op := Op.pick (Operand.tmp 110) (Operand.tmp 113) (Operand.const (Value.bool false)), type := 4, pos := "ref.go:33", after := #[{ on := 25, ground := Ground.data }, { on := 28, ground := Ground.data }, { on := 19, ground := Ground.guard }], guard := some (19, false) }) (v := undef) rfl (by kernel_rfl) (by kernel_rfl) (by kernel_rfl) (fun _ _ _ h => h) (Or.inr ⟨by rfl, rfl⟩) (by assumption) ?_
                    try simp only [Act.put, List.setIfInBounds_toArray, List.set_cons_zero, List.set_cons_succ]
                    refine wpAnyH_take (i := 30) (oi := { dst := some 115, op := Op.pick (Operand.tmp 104) (Operand.const (Value.bool true)) (Operand.tmp 114), type := 4, pos := "ref.go:33", after := #[{ on := 19, ground := Ground.data }, { on := 29, ground := Ground.data }], guard := none }) (v := ?_) rfl (by kernel_rfl) (by kernel_rfl) (by kernel_rfl) (fun _ _ _ h => h) (Or.inl ⟨by rfl, ?_⟩) (by assumption) ?_
                    rotate_left
                    focus ((intro w hSw; (try dsimp only at hSw); go_simp) <;> (try with_reducible rfl))
                    try simp only [Act.put, List.setIfInBounds_toArray, List.set_cons_zero, List.set_cons_succ]
                    refine wpAnyH_done (by kernel_rfl) ?_ _
                    go_wp2_with fail
                    go_ret
                    exact RetW.mk (by rw [HV.out]; try rfl) HBX.out.drew
                  subst hn0
                  by_cases hn1 : fl = 0
                  rotate_left
                  ·
                    refine wp_region_held_drew (S := fun w' => w'.cell? ⟨A, 0, none⟩ = some (.int .i64 0) ∧ w'.cell? ⟨A, 1, none⟩ = some (.int .i64 fl) ∧ w'.cell? ⟨A, 2, none⟩ = some (.int .i64 f) ∧ w'.cell? ⟨A, 3, none⟩ = some (.int .i64 cu) ∧ w'.cell? ⟨A, 4, none⟩ = some (.int .i64 0) ∧ w'.cell? ⟨w.heap.size + 1, k, none⟩ = some (.int .i64 0)) (by kernel_rfl) (by (try dsimp only); go_keep) (fun hHeld => ?_)
                    refine wpAnyH_take (i := 0) (oi := { dst := some 85, op := Op.fieldAddr 34 (Operand.tmp 8) 4, type := 0, pos := "ref.go:33", after := #[], guard := none }) (v := ?_) rfl (by kernel_rfl) (by kernel_rfl) (by kernel_rfl) (fun _ _ _ h => h) (Or.inl ⟨by rfl, ?_⟩) (by assumption) ?_
                    rotate_left
                    focus ((intro w hSw; (try dsimp only at hSw); go_simp) <;> (try with_reducible rfl))
                    try simp only [Act.put, List.setIfInBounds_toArray, List.set_cons_zero, List.set_cons_succ]
                    refine wpAnyH_take (i := 1) (oi := { dst := some 86, op := Op.load 3 (Operand.tmp 85), type := 3, pos := "ref.go:33", after := #[{ on := 0, ground := Ground.data }], guard := none }) (v := ?_) rfl (by kernel_rfl) (by kernel_rfl) (by kernel_rfl) (fun _ _ _ h => h) (Or.inl ⟨by rfl, ?_⟩) (by assumption) ?_
                    rotate_left
                    focus ((intro w hSw; (try dsimp only at hSw); go_simp) <;> (try with_reducible rfl))
                    try simp only [Act.put, List.setIfInBounds_toArray, List.set_cons_zero, List.set_cons_succ]
                    refine wpAnyH_take (i := 2) (oi := { dst := some 87, op := Op.move (Operand.tmp 3), type := 22, pos := "ref.go:33", after := #[], guard := none }) (v := ?_) rfl (by kernel_rfl) (by kernel_rfl) (by kernel_rfl) (fun _ _ _ h => h) (Or.inl ⟨by rfl, ?_⟩) (by assumption) ?_
                    rotate_left
                    focus ((intro w hSw; (try dsimp only at hSw); go_simp) <;> (try with_reducible rfl))
                    try simp only [Act.put, List.setIfInBounds_toArray, List.set_cons_zero, List.set_cons_succ]
                    refine wpAnyH_take (i := 3) (oi := { dst := some 88, op := Op.move (Operand.tmp 7), type := 3, pos := "ref.go:33", after := #[], guard := none }) (v := ?_) rfl (by kernel_rfl) (by kernel_rfl) (by kernel_rfl) (fun _ _ _ h => h) (Or.inl ⟨by rfl, ?_⟩) (by assumption) ?_
                    rotate_left
                    focus ((intro w hSw; (try dsimp only at hSw); go_simp) <;> (try with_reducible rfl))
                    try simp only [Act.put, List.setIfInBounds_toArray, List.set_cons_zero, List.set_cons_succ]
                    refine wpAnyH_take (i := 4) (oi := { dst := some 89, op := Op.indexAddr 22 (Operand.tmp 87) (Operand.tmp 88), type := 0, pos := "ref.go:33", after := #[{ on := 2, ground := Ground.data }, { on := 3, ground := Ground.data }], guard := none }) (v := ?_) rfl (by kernel_rfl) (by kernel_rfl) (by kernel_rfl) (fun _ _ _ h => h) (Or.inl ⟨by rfl, ?_⟩) (by assumption) ?_
                    rotate_left
                    focus ((intro w hSw; (try dsimp only at hSw); go_simp) <;> (try with_reducible rfl))
                    try simp only [Act.put, List.setIfInBounds_toArray, List.set_cons_zero, List.set_cons_succ]
                    refine wpAnyH_take (i := 5) (oi := { dst := some 90, op := Op.load 3 (Operand.tmp 89), type := 3, pos := "ref.go:33", after := #[{ on := 4, ground := Ground.data }], guard := none }) (v := ?_) rfl (by kernel_rfl) (by kernel_rfl) (by kernel_rfl) (fun _ _ _ h => h) (Or.inl ⟨by rfl, ?_⟩) (by assumption) ?_
                    rotate_left
                    focus ((intro w hSw; (try dsimp only at hSw); go_simp) <;> (try with_reducible rfl))
                    try simp only [Act.put, List.setIfInBounds_toArray, List.set_cons_zero, List.set_cons_succ]
                    refine wpAnyH_take (i := 6) (oi := { dst := some 91, op := Op.binOp BinOp.neq 3 (Operand.tmp 86) (Operand.tmp 90) 3, type := 4, pos := "ref.go:33", after := #[{ on := 1, ground := Ground.data }, { on := 5, ground := Ground.data }], guard := none }) (v := ?_) rfl (by kernel_rfl) (by kernel_rfl) (by kernel_rfl) (fun _ _ _ h => h) (Or.inl ⟨by rfl, ?_⟩) (by assumption) ?_
                    rotate_left
                    focus ((intro w hSw; (try dsimp only at hSw); go_simp) <;> (try with_reducible rfl))
                    try simp only [Act.put, List.setIfInBounds_toArray, List.set_cons_zero, List.set_cons_succ]
                    refine wpAnyH_take (i := 7) (oi := { dst := some 92, op := Op.move (Operand.tmp 91), type := 4, pos := "ref.go:33", after := #[{ on := 6, ground := Ground.data }], guard := none }) (v := ?_) rfl (by kernel_rfl) (by kernel_rfl) (by kernel_rfl) (fun _ _ _ h => h) (Or.inl ⟨by rfl, ?_⟩) (by assumption) ?_
                    rotate_left
                    focus ((intro w hSw; (try dsimp only at hSw); go_simp) <;> (try with_reducible rfl))
                    try simp only [Act.put, List.setIfInBounds_toArray, List.set_cons_zero, List.set_cons_succ]
                    refine wpAnyH_take (i := 8) (oi := { dst := some 93, op := Op.move (Operand.tmp 3), type := 22, pos := "ref.go:33", after := #[{ on := 7, ground := Ground.guard }], guard := some (7, false) }) (v := ?_) rfl (by kernel_rfl) (by kernel_rfl) (by kernel_rfl) (fun _ _ _ h => h) (Or.inl ⟨by rfl, ?_⟩) (by assumption) ?_
                    rotate_left
                    focus ((intro w hSw; (try dsimp only at hSw); go_simp) <;> (try with_reducible rfl))
                    try simp only [Act.put, List.setIfInBounds_toArray, List.set_cons_zero, List.set_cons_succ]
                    refine wpAnyH_take (i := 9) (oi := { dst := some 94, op := Op.move (Operand.tmp 7), type := 3, pos := "ref.go:33", after := #[{ on := 7, ground := Ground.guard }], guard := some (7, false) }) (v := ?_) rfl (by kernel_rfl) (by kernel_rfl) (by kernel_rfl) (fun _ _ _ h => h) (Or.inl ⟨by rfl, ?_⟩) (by assumption) ?_
                    rotate_left
                    focus ((intro w hSw; (try dsimp only at hSw); go_simp) <;> (try with_reducible rfl))
                    try simp only [Act.put, List.setIfInBounds_toArray, List.set_cons_zero, List.set_cons_succ]
                    refine wpAnyH_take (i := 10) (oi := { dst := some 95, op := Op.indexAddr 22 (Operand.tmp 93) (Operand.tmp 94), type := 0, pos := "ref.go:33", after := #[{ on := 8, ground := Ground.data }, { on := 9, ground := Ground.data }, { on := 7, ground := Ground.guard }], guard := some (7, false) }) (v := ?_) rfl (by kernel_rfl) (by kernel_rfl) (by kernel_rfl) (fun _ _ _ h => h) (Or.inl ⟨by rfl, ?_⟩) (by assumption) ?_
                    rotate_left
                    focus ((intro w hSw; (try dsimp only at hSw); go_simp) <;> (try with_reducible rfl))
                    try simp only [Act.put, List.setIfInBounds_toArray, List.set_cons_zero, List.set_cons_succ]
                    refine wpAnyH_take (i := 11) (oi := { dst := some 96, op := Op.load 3 (Operand.tmp 95), type := 3, pos := "ref.go:33", after := #[{ on := 10, ground := Ground.data }, { on := 7, ground := Ground.guard }], guard := some (7, false) }) (v := ?_) rfl (by kernel_rfl) (by kernel_rfl) (by kernel_rfl) (fun _ _ _ h => h) (Or.inl ⟨by rfl, ?_⟩) (by assumption) ?_
                    rotate_left
                    focus ((intro w hSw; (try dsimp only at hSw); go_simp) <;> (try with_reducible rfl))
                    try simp only [Act.put, List.setIfInBounds_toArray, List.set_cons_zero, List.set_cons_succ]
                    refine wpAnyH_take (i := 12) (oi := { dst := some 97, op := Op.binOp BinOp.eql 3 (Operand.tmp 96) (Operand.const (Value.int IntKind.i64 0)) 3, type := 4, pos := "ref.go:33", after := #[{ on := 11, ground := Ground.data }, { on := 7, ground := Ground.guard }], guard := some (7, false) }) (v := ?_) rfl (by kernel_rfl) (by kernel_rfl) (by kernel_rfl) (fun _ _ _ h => h) (Or.inl ⟨by rfl, ?_⟩) (by assumption) ?_
                    rotate_left
                    focus ((intro w hSw; (try dsimp only at hSw); go_simp) <;> (try with_reducible rfl))
                    try simp only [Act.put, List.setIfInBounds_toArray, List.set_cons_zero, List.set_cons_succ]
                    refine wpAnyH_take (i := 13) (oi := { dst := some 98, op := Op.move (Operand.tmp 97), type := 4, pos := "ref.go:33", after := #[{ on := 12, ground := Ground.data }, { on := 7, ground := Ground.chain }, { on := 7, ground := Ground.guard }], guard := some (7, false) }) (v := ?_) rfl (by kernel_rfl) (by kernel_rfl) (by kernel_rfl) (fun _ _ _ h => h) (Or.inl ⟨by rfl, ?_⟩) (by assumption) ?_
                    rotate_left
                    focus ((intro w hSw; (try dsimp only at hSw); go_simp) <;> (try with_reducible rfl))
                    try simp only [Act.put, List.setIfInBounds_toArray, List.set_cons_zero, List.set_cons_succ]
                    refine wpAnyH_take (i := 14) (oi := { dst := some 99, op := Op.load 34 (Operand.tmp 8), type := 34, pos := "ref.go:33", after := #[{ on := 13, ground := Ground.guard }], guard := some (13, true) }) (v := ?_) rfl (by kernel_rfl) (by kernel_rfl) (by kernel_rfl) (fun _ _ _ h => h) (Or.inl ⟨by rfl, ?_⟩) (by assumption) ?_
                    rotate_left
                    focus ((intro w hSw; (try dsimp only at hSw); go_simp) <;> (try with_reducible rfl))
                    try simp only [Act.put, List.setIfInBounds_toArray, List.set_cons_zero, List.set_cons_succ]
                    refine wpAnyH_take (i := 15) (oi := { dst := some 100, op := Op.build 34 #[], type := 34, pos := "ref.go:33", after := #[{ on := 13, ground := Ground.guard }], guard := some (13, true) }) (v := ?_) rfl (by kernel_rfl) (by kernel_rfl) (by kernel_rfl) (fun _ _ _ h => h) (Or.inl ⟨by rfl, ?_⟩) (by assumption) ?_
                    rotate_left
                    focus ((intro w hSw; (try dsimp only at hSw); go_simp) <;> (try with_reducible rfl))
                    try simp only [Act.put, List.setIfInBounds_toArray, List.set_cons_zero, List.set_cons_succ]
                    refine wpAnyH_take (i := 16) (oi := { dst := some 101, op := Op.binOp BinOp.neq 34 (Operand.tmp 99) (Operand.tmp 100) 34, type := 4, pos := "ref.go:33", after := #[{ on := 14, ground := Ground.data }, { on := 15, ground := Ground.data }, { on := 13, ground := Ground.guard }], guard := some (13, true) }) (v := ?_) rfl (by kernel_rfl) (by kernel_rfl) (by kernel_rfl) (fun _ _ _ h => h) (Or.inl ⟨by rfl, ?_⟩) (by assumption) ?_
                    rotate_left
                    focus ((intro w hSw; (try dsimp only at hSw); go_simp) <;> (try with_reducible rfl))
                    try simp only [Act.put, List.setIfInBounds_toArray, List.set_cons_zero, List.set_cons_succ]
                    refine wpAnyH_take (i := 17) (oi := { dst := some 102, op := Op.pick (Operand.tmp 98) (Operand.tmp 101) (Operand.const (Value.bool false)), type := 4, pos := "ref.go:33", after := #[{ on := 13, ground := Ground.data }, { on := 16, ground := Ground.data }, { on := 7, ground := Ground.guard }], guard := some (7, false) }) (v := ?_) rfl (by kernel_rfl) (by kernel_rfl) (by kernel_rfl) (fun _ _ _ h => h) (Or.inl ⟨by rfl, ?_⟩) (by assumption) ?_
                    rotate_left
                    focus ((intro w hSw; (try dsimp only at hSw); go_simp) <;> (try with_reducible rfl))
                    try simp only [Act.put, List.setIfInBounds_toArray, List.set_cons_zero, List.set_cons_succ]
                    refine wpAnyH_take (i := 18) (oi := { dst := some 103, op := Op.pick (Operand.tmp 92) (Operand.const (Value.bool true)) (Operand.tmp 102), type := 4, pos := "ref.go:33", after := #[{ on := 7, ground := Ground.data }, { on := 17, ground := Ground.data }], guard := none }) (v := ?_) rfl (by kernel_rfl) (by kernel_rfl) (by kernel_rfl) (fun _ _ _ h => h) (Or.inl ⟨by rfl, ?_⟩) (by assumption) ?_
                    rotate_left
                    focus ((intro w hSw; (try dsimp only at hSw); go_simp) <;> (try with_reducible rfl))
                    try simp only [Act.put, List.setIfInBounds_toArray, List.set_cons_zero, List.set_cons_succ]
                    refine wpAnyH_take (i := 19) (oi := { dst := some 104, op := Op.move (Operand.tmp 103), type := 4, pos := "ref.go:33", after := #[{ on := 18, ground := Ground.data }, { on := 13, ground := Ground.chain }], guard := none }) (v := ?_) rfl (by kernel_rfl) (by kernel_rfl) (by kernel_rfl) (fun _ _ _ h => h) (Or.inl ⟨by rfl, ?_⟩) (by assumption) ?_
                    rotate_left
                    focus ((intro w hSw; (try dsimp only at hSw); go_simp) <;> (try with_reducible rfl))
                    try simp only [Act.put, List.setIfInBounds_toArray, List.set_cons_zero, List.set_cons_succ]
                    refine wpAnyH_take (i := 20) (oi := { dst := some 105, op := Op.move (Operand.tmp 3), type := 22, pos := "ref.go:33", after := #[{ on := 19, ground := Ground.guard }], guard := some (19, false) }) (v := undef) rfl (by kernel_rfl) (by kernel_rfl) (by kernel_rfl) (fun _ _ _ h => h) (Or.inr ⟨by rfl, rfl⟩) (by assumption) ?_
                    try simp only [Act.put, List.setIfInBounds_toArray, List.set_cons_zero, List.set_cons_succ]
                    refine wpAnyH_take (i := 21) (oi := { dst := some 106, op := Op.move (Operand.tmp 7), type := 3, pos := "ref.go:33", after := #[{ on := 19, ground := Ground.guard }], guard := some (19, false) }) (v := undef) rfl (by kernel_rfl) (by kernel_rfl) (by kernel_rfl) (fun _ _ _ h => h) (Or.inr ⟨by rfl, rfl⟩) (by assumption) ?_
                    try simp only [Act.put, List.setIfInBounds_toArray, List.set_cons_zero, List.set_cons_succ]
                    refine wpAnyH_take (i := 22) (oi := { dst := some 107, op := Op.indexAddr 22 (Operand.tmp 105) (Operand.tmp 106), type := 0, pos := "ref.go:33", after := #[{ on := 20, ground := Ground.data }, { on := 21, ground := Ground.data }, { on := 19, ground := Ground.guard }], guard := some (19, false) }) (v := undef) rfl (by kernel_rfl) (by kernel_rfl) (by kernel_rfl) (fun _ _ _ h => h) (Or.inr ⟨by rfl, rfl⟩) (by assumption) ?_
                    try simp only [Act.put, List.setIfInBounds_toArray, List.set_cons_zero, List.set_cons_succ]
                    refine wpAnyH_take (i := 23) (oi := { dst := some 108, op := Op.load 3 (Operand.tmp 107), type := 3, pos := "ref.go:33", after := #[{ on := 22, ground := Ground.data }, { on := 19, ground := Ground.guard }], guard := some (19, false) }) (v := undef) rfl (by kernel_rfl) (by kernel_rfl) (by kernel_rfl) (fun _ _ _ h => h) (Or.inr ⟨by rfl, rfl⟩) (by assumption) ?_
                    try simp only [Act.put, List.setIfInBounds_toArray, List.set_cons_zero, List.set_cons_succ]
                    refine wpAnyH_take (i := 24) (oi := { dst := some 109, op := Op.binOp BinOp.gtr 3 (Operand.tmp 108) (Operand.const (Value.int IntKind.i64 0)) 3, type := 4, pos := "ref.go:33", after := #[{ on := 23, ground := Ground.data }, { on := 19, ground := Ground.guard }], guard := some (19, false) }) (v := undef) rfl (by kernel_rfl) (by kernel_rfl) (by kernel_rfl) (fun _ _ _ h => h) (Or.inr ⟨by rfl, rfl⟩) (by assumption) ?_
                    try simp only [Act.put, List.setIfInBounds_toArray, List.set_cons_zero, List.set_cons_succ]
                    refine wpAnyH_take (i := 25) (oi := { dst := some 110, op := Op.move (Operand.tmp 109), type := 4, pos := "ref.go:33", after := #[{ on := 24, ground := Ground.data }, { on := 19, ground := Ground.chain }, { on := 19, ground := Ground.guard }], guard := some (19, false) }) (v := undef) rfl (by kernel_rfl) (by kernel_rfl) (by kernel_rfl) (fun _ _ _ h => h) (Or.inr ⟨by rfl, rfl⟩) (by assumption) ?_
                    try simp only [Act.put, List.setIfInBounds_toArray, List.set_cons_zero, List.set_cons_succ]
                    refine wpAnyH_take (i := 26) (oi := { dst := some 111, op := Op.load 34 (Operand.tmp 8), type := 34, pos := "ref.go:33", after := #[{ on := 25, ground := Ground.guard }], guard := some (25, true) }) (v := undef) rfl (by kernel_rfl) (by kernel_rfl) (by kernel_rfl) (fun _ _ _ h => h) (Or.inr ⟨by rfl, rfl⟩) (by assumption) ?_
                    try simp only [Act.put, List.setIfInBounds_toArray, List.set_cons_zero, List.set_cons_succ]
                    refine wpAnyH_take (i := 27) (oi := { dst := some 112, op := Op.call { callee := Callee.value (Operand.func 37), args := #[Operand.tmp 111], argTypes := #[34] }, type := 4, pos := "ref.go:33", after := #[{ on := 26, ground := Ground.data }, { on := 25, ground := Ground.chain }, { on := 25, ground := Ground.guard }], guard := some (25, true) }) (v := undef) rfl (by kernel_rfl) (by kernel_rfl) (by kernel_rfl) (fun _ _ _ h => h) (Or.inr ⟨by rfl, rfl⟩) (by assumption) ?_
                    try simp only [Act.put, List.setIfInBounds_toArray, List.set_cons_zero, List.set_cons_succ]
                    refine wpAnyH_take (i := 28) (oi := { dst := some 113, op := Op.unOp UnOp.not 4 (Operand.tmp 112), type := 4, pos := "ref.go:33", after := #[{ on := 27, ground := Ground.data }, { on := 25, ground := Ground.guard }], guard := some (25, true) }) (v := undef) rfl (by kernel_rfl) (by kernel_rfl) (by kernel_rfl) (fun _ _ _ h => h) (Or.inr ⟨by rfl, rfl⟩) (by assumption) ?_
                    try simp only [Act.put, List.setIfInBounds_toArray, List.set_cons_zero, List.set_cons_succ]
                    refine wpAnyH_take (i := 29) (oi := { dst := some 114, op := Op.pick (Operand.tmp 110) (Operand.tmp 113) (Operand.const (Value.bool false)), type := 4, pos := "ref.go:33", after := #[{ on := 25, ground := Ground.data }, { on := 28, ground := Ground.data }, { on := 19, ground := Ground.guard }], guard := some (19, false) }) (v := undef) rfl (by kernel_rfl) (by kernel_rfl) (by kernel_rfl) (fun _ _ _ h => h) (Or.inr ⟨by rfl, rfl⟩) (by assumption) ?_
                    try simp only [Act.put, List.setIfInBounds_toArray, List.set_cons_zero, List.set_cons_succ]
                    refine wpAnyH_take (i := 30) (oi := { dst := some 115, op := Op.pick (Operand.tmp 104) (Operand.const (Value.bool true)) (Operand.tmp 114), type := 4, pos := "ref.go:33", after := #[{ on := 19, ground := Ground.data }, { on := 29, ground := Ground.data }], guard := none }) (v := ?_) rfl (by kernel_rfl) (by kernel_rfl) (by kernel_rfl) (fun _ _ _ h => h) (Or.inl ⟨by rfl, ?_⟩) (by assumption) ?_
                    rotate_left
                    focus ((intro w hSw; (try dsimp only at hSw); go_simp) <;> (try with_reducible rfl))
                    try simp only [Act.put, List.setIfInBounds_toArray, List.set_cons_zero, List.set_cons_succ]
                    refine wpAnyH_done (by kernel_rfl) ?_ _
                    go_wp2_with fail
                    go_ret
                    exact RetW.mk (by rw [HV.out]; try rfl) HBX.out.drew
                  subst hn1
                  by_cases hn2 : f = 0
                  rotate_left
                  ·
                    refine wp_region_held_drew (S := fun w' => w'.cell? ⟨A, 0, none⟩ = some (.int .i64 0) ∧ w'.cell? ⟨A, 1, none⟩ = some (.int .i64 0) ∧ w'.cell? ⟨A, 2, none⟩ = some (.int .i64 f) ∧ w'.cell? ⟨A, 3, none⟩ = some (.int .i64 cu) ∧ w'.cell? ⟨A, 4, none⟩ = some (.int .i64 0) ∧ w'.cell? ⟨w.heap.size + 1, k, none⟩ = some (.int .i64 0)) (by kernel_rfl) (by (try dsimp only); go_keep) (fun hHeld => ?_)
                    refine wpAnyH_take (i := 0) (oi := { dst := some 85, op := Op.fieldAddr 34 (Operand.tmp 8) 4, type := 0, pos := "ref.go:33", after := #[], guard := none }) (v := ?_) rfl (by kernel_rfl) (by kernel_rfl) (by kernel_rfl) (fun _ _ _ h => h) (Or.inl ⟨by rfl, ?_⟩) (by assumption) ?_
                    rotate_left
                    focus ((intro w hSw; (try dsimp only at hSw); go_simp) <;> (try with_reducible rfl))
                    try simp only [Act.put, List.setIfInBounds_toArray, List.set_cons_zero, List.set_cons_succ]
                    refine wpAnyH_take (i := 1) (oi := { dst := some 86, op := Op.load 3 (Operand.tmp 85), type := 3, pos := "ref.go:33", after := #[{ on := 0, ground := Ground.data }], guard := none }) (v := ?_) rfl (by kernel_rfl) (by kernel_rfl) (by kernel_rfl) (fun _ _ _ h => h) (Or.inl ⟨by rfl, ?_⟩) (by assumption) ?_
                    rotate_left
                    focus ((intro w hSw; (try dsimp only at hSw); go_simp) <;> (try with_reducible rfl))
                    try simp only [Act.put, List.setIfInBounds_toArray, List.set_cons_zero, List.set_cons_succ]
                    refine wpAnyH_take (i := 2) (oi := { dst := some 87, op := Op.move (Operand.tmp 3), type := 22, pos := "ref.go:33", after := #[], guard := none }) (v := ?_) rfl (by kernel_rfl) (by kernel_rfl) (by kernel_rfl) (fun _ _ _ h => h) (Or.inl ⟨by rfl, ?_⟩) (by assumption) ?_
                    rotate_left
                    focus ((intro w hSw; (try dsimp only at hSw); go_simp) <;> (try with_reducible rfl))
                    try simp only [Act.put, List.setIfInBounds_toArray, List.set_cons_zero, List.set_cons_succ]
                    refine wpAnyH_take (i := 3) (oi := { dst := some 88, op := Op.move (Operand.tmp 7), type := 3, pos := "ref.go:33", after := #[], guard := none }) (v := ?_) rfl (by kernel_rfl) (by kernel_rfl) (by kernel_rfl) (fun _ _ _ h => h) (Or.inl ⟨by rfl, ?_⟩) (by assumption) ?_
                    rotate_left
                    focus ((intro w hSw; (try dsimp only at hSw); go_simp) <;> (try with_reducible rfl))
                    try simp only [Act.put, List.setIfInBounds_toArray, List.set_cons_zero, List.set_cons_succ]
                    refine wpAnyH_take (i := 4) (oi := { dst := some 89, op := Op.indexAddr 22 (Operand.tmp 87) (Operand.tmp 88), type := 0, pos := "ref.go:33", after := #[{ on := 2, ground := Ground.data }, { on := 3, ground := Ground.data }], guard := none }) (v := ?_) rfl (by kernel_rfl) (by kernel_rfl) (by kernel_rfl) (fun _ _ _ h => h) (Or.inl ⟨by rfl, ?_⟩) (by assumption) ?_
                    rotate_left
                    focus ((intro w hSw; (try dsimp only at hSw); go_simp) <;> (try with_reducible rfl))
                    try simp only [Act.put, List.setIfInBounds_toArray, List.set_cons_zero, List.set_cons_succ]
                    refine wpAnyH_take (i := 5) (oi := { dst := some 90, op := Op.load 3 (Operand.tmp 89), type := 3, pos := "ref.go:33", after := #[{ on := 4, ground := Ground.data }], guard := none }) (v := ?_) rfl (by kernel_rfl) (by kernel_rfl) (by kernel_rfl) (fun _ _ _ h => h) (Or.inl ⟨by rfl, ?_⟩) (by assumption) ?_
                    rotate_left
                    focus ((intro w hSw; (try dsimp only at hSw); go_simp) <;> (try with_reducible rfl))
                    try simp only [Act.put, List.setIfInBounds_toArray, List.set_cons_zero, List.set_cons_succ]
                    refine wpAnyH_take (i := 6) (oi := { dst := some 91, op := Op.binOp BinOp.neq 3 (Operand.tmp 86) (Operand.tmp 90) 3, type := 4, pos := "ref.go:33", after := #[{ on := 1, ground := Ground.data }, { on := 5, ground := Ground.data }], guard := none }) (v := ?_) rfl (by kernel_rfl) (by kernel_rfl) (by kernel_rfl) (fun _ _ _ h => h) (Or.inl ⟨by rfl, ?_⟩) (by assumption) ?_
                    rotate_left
                    focus ((intro w hSw; (try dsimp only at hSw); go_simp) <;> (try with_reducible rfl))
                    try simp only [Act.put, List.setIfInBounds_toArray, List.set_cons_zero, List.set_cons_succ]
                    refine wpAnyH_take (i := 7) (oi := { dst := some 92, op := Op.move (Operand.tmp 91), type := 4, pos := "ref.go:33", after := #[{ on := 6, ground := Ground.data }], guard := none }) (v := ?_) rfl (by kernel_rfl) (by kernel_rfl) (by kernel_rfl) (fun _ _ _ h => h) (Or.inl ⟨by rfl, ?_⟩) (by assumption) ?_
                    rotate_left
                    focus ((intro w hSw; (try dsimp only at hSw); go_simp) <;> (try with_reducible rfl))
                    try simp only [Act.put, List.setIfInBounds_toArray, List.set_cons_zero, List.set_cons_succ]
                    refine wpAnyH_take (i := 8) (oi := { dst := some 93, op := Op.move (Operand.tmp 3), type := 22, pos := "ref.go:33", after := #[{ on := 7, ground := Ground.guard }], guard := some (7, false) }) (v := ?_) rfl (by kernel_rfl) (by kernel_rfl) (by kernel_rfl) (fun _ _ _ h => h) (Or.inl ⟨by rfl, ?_⟩) (by assumption) ?_
                    rotate_left
                    focus ((intro w hSw; (try dsimp only at hSw); go_simp) <;> (try with_reducible rfl))
                    try simp only [Act.put, List.setIfInBounds_toArray, List.set_cons_zero, List.set_cons_succ]
                    refine wpAnyH_take (i := 9) (oi := { dst := some 94, op := Op.move (Operand.tmp 7), type := 3, pos := "ref.go:33", after := #[{ on := 7, ground := Ground.guard }], guard := some (7, false) }) (v := ?_) rfl (by kernel_rfl) (by kernel_rfl) (by kernel_rfl) (fun _ _ _ h => h) (Or.inl ⟨by rfl, ?_⟩) (by assumption) ?_
                    rotate_left
                    focus ((intro w hSw; (try dsimp only at hSw); go_simp) <;> (try with_reducible rfl))
                    try simp only [Act.put, List.setIfInBounds_toArray, List.set_cons_zero, List.set_cons_succ]
                    refine wpAnyH_take (i := 10) (oi := { dst := some 95, op := Op.indexAddr 22 (Operand.tmp 93) (Operand.tmp 94), type := 0, pos := "ref.go:33", after := #[{ on := 8, ground := Ground.data }, { on := 9, ground := Ground.data }, { on := 7, ground := Ground.guard }], guard := some (7, false) }) (v := ?_) rfl (by kernel_rfl) (by kernel_rfl) (by kernel_rfl) (fun _ _ _ h => h) (Or.inl ⟨by rfl, ?_⟩) (by assumption) ?_
                    rotate_left
                    focus ((intro w hSw; (try dsimp only at hSw); go_simp) <;> (try with_reducible rfl))
                    try simp only [Act.put, List.setIfInBounds_toArray, List.set_cons_zero, List.set_cons_succ]
                    refine wpAnyH_take (i := 11) (oi := { dst := some 96, op := Op.load 3 (Operand.tmp 95), type := 3, pos := "ref.go:33", after := #[{ on := 10, ground := Ground.data }, { on := 7, ground := Ground.guard }], guard := some (7, false) }) (v := ?_) rfl (by kernel_rfl) (by kernel_rfl) (by kernel_rfl) (fun _ _ _ h => h) (Or.inl ⟨by rfl, ?_⟩) (by assumption) ?_
                    rotate_left
                    focus ((intro w hSw; (try dsimp only at hSw); go_simp) <;> (try with_reducible rfl))
                    try simp only [Act.put, List.setIfInBounds_toArray, List.set_cons_zero, List.set_cons_succ]
                    refine wpAnyH_take (i := 12) (oi := { dst := some 97, op := Op.binOp BinOp.eql 3 (Operand.tmp 96) (Operand.const (Value.int IntKind.i64 0)) 3, type := 4, pos := "ref.go:33", after := #[{ on := 11, ground := Ground.data }, { on := 7, ground := Ground.guard }], guard := some (7, false) }) (v := ?_) rfl (by kernel_rfl) (by kernel_rfl) (by kernel_rfl) (fun _ _ _ h => h) (Or.inl ⟨by rfl, ?_⟩) (by assumption) ?_
                    rotate_left
                    focus ((intro w hSw; (try dsimp only at hSw); go_simp) <;> (try with_reducible rfl))
                    try simp only [Act.put, List.setIfInBounds_toArray, List.set_cons_zero, List.set_cons_succ]
                    refine wpAnyH_take (i := 13) (oi := { dst := some 98, op := Op.move (Operand.tmp 97), type := 4, pos := "ref.go:33", after := #[{ on := 12, ground := Ground.data }, { on := 7, ground := Ground.chain }, { on := 7, ground := Ground.guard }], guard := some (7, false) }) (v := ?_) rfl (by kernel_rfl) (by kernel_rfl) (by kernel_rfl) (fun _ _ _ h => h) (Or.inl ⟨by rfl, ?_⟩) (by assumption) ?_
                    rotate_left
                    focus ((intro w hSw; (try dsimp only at hSw); go_simp) <;> (try with_reducible rfl))
                    try simp only [Act.put, List.setIfInBounds_toArray, List.set_cons_zero, List.set_cons_succ]
                    refine wpAnyH_take (i := 14) (oi := { dst := some 99, op := Op.load 34 (Operand.tmp 8), type := 34, pos := "ref.go:33", after := #[{ on := 13, ground := Ground.guard }], guard := some (13, true) }) (v := ?_) rfl (by kernel_rfl) (by kernel_rfl) (by kernel_rfl) (fun _ _ _ h => h) (Or.inl ⟨by rfl, ?_⟩) (by assumption) ?_
                    rotate_left
                    focus ((intro w hSw; (try dsimp only at hSw); go_simp) <;> (try with_reducible rfl))
                    try simp only [Act.put, List.setIfInBounds_toArray, List.set_cons_zero, List.set_cons_succ]
                    refine wpAnyH_take (i := 15) (oi := { dst := some 100, op := Op.build 34 #[], type := 34, pos := "ref.go:33", after := #[{ on := 13, ground := Ground.guard }], guard := some (13, true) }) (v := ?_) rfl (by kernel_rfl) (by kernel_rfl) (by kernel_rfl) (fun _ _ _ h => h) (Or.inl ⟨by rfl, ?_⟩) (by assumption) ?_
                    rotate_left
                    focus ((intro w hSw; (try dsimp only at hSw); go_simp) <;> (try with_reducible rfl))
                    try simp only [Act.put, List.setIfInBounds_toArray, List.set_cons_zero, List.set_cons_succ]
                    refine wpAnyH_take (i := 16) (oi := { dst := some 101, op := Op.binOp BinOp.neq 34 (Operand.tmp 99) (Operand.tmp 100) 34, type := 4, pos := "ref.go:33", after := #[{ on := 14, ground := Ground.data }, { on := 15, ground := Ground.data }, { on := 13, ground := Ground.guard }], guard := some (13, true) }) (v := ?_) rfl (by kernel_rfl) (by kernel_rfl) (by kernel_rfl) (fun _ _ _ h => h) (Or.inl ⟨by rfl, ?_⟩) (by assumption) ?_
                    rotate_left
                    focus ((intro w hSw; (try dsimp only at hSw); go_simp) <;> (try with_reducible rfl))
                    try simp only [Act.put, List.setIfInBounds_toArray, List.set_cons_zero, List.set_cons_succ]
                    refine wpAnyH_take (i := 17) (oi := { dst := some 102, op := Op.pick (Operand.tmp 98) (Operand.tmp 101) (Operand.const (Value.bool false)), type := 4, pos := "ref.go:33", after := #[{ on := 13, ground := Ground.data }, { on := 16, ground := Ground.data }, { on := 7, ground := Ground.guard }], guard := some (7, false) }) (v := ?_) rfl (by kernel_rfl) (by kernel_rfl) (by kernel_rfl) (fun _ _ _ h => h) (Or.inl ⟨by rfl, ?_⟩) (by assumption) ?_
                    rotate_left
                    focus ((intro w hSw; (try dsimp only at hSw); go_simp) <;> (try with_reducible rfl))
                    try simp only [Act.put, List.setIfInBounds_toArray, List.set_cons_zero, List.set_cons_succ]
                    refine wpAnyH_take (i := 18) (oi := { dst := some 103, op := Op.pick (Operand.tmp 92) (Operand.const (Value.bool true)) (Operand.tmp 102), type := 4, pos := "ref.go:33", after := #[{ on := 7, ground := Ground.data }, { on := 17, ground := Ground.data }], guard := none }) (v := ?_) rfl (by kernel_rfl) (by kernel_rfl) (by kernel_rfl) (fun _ _ _ h => h) (Or.inl ⟨by rfl, ?_⟩) (by assumption) ?_
                    rotate_left
                    focus ((intro w hSw; (try dsimp only at hSw); go_simp) <;> (try with_reducible rfl))
                    try simp only [Act.put, List.setIfInBounds_toArray, List.set_cons_zero, List.set_cons_succ]
                    refine wpAnyH_take (i := 19) (oi := { dst := some 104, op := Op.move (Operand.tmp 103), type := 4, pos := "ref.go:33", after := #[{ on := 18, ground := Ground.data }, { on := 13, ground := Ground.chain }], guard := none }) (v := ?_) rfl (by kernel_rfl) (by kernel_rfl) (by kernel_rfl) (fun _ _ _ h => h) (Or.inl ⟨by rfl, ?_⟩) (by assumption) ?_
                    rotate_left
                    focus ((intro w hSw; (try dsimp only at hSw); go_simp) <;> (try with_reducible rfl))
                    try simp only [Act.put, List.setIfInBounds_toArray, List.set_cons_zero, List.set_cons_succ]
                    refine wpAnyH_take (i := 20) (oi := { dst := some 105, op := Op.move (Operand.tmp 3), type := 22, pos := "ref.go:33", after := #[{ on := 19, ground := Ground.guard }], guard := some (19, false) }) (v := undef) rfl (by kernel_rfl) (by kernel_rfl) (by kernel_rfl) (fun _ _ _ h => h) (Or.inr ⟨by rfl, rfl⟩) (by assumption) ?_
                    try simp only [Act.put, List.setIfInBounds_toArray, List.set_cons_zero, List.set_cons_succ]
                    refine wpAnyH_take (i := 21) (oi := { dst := some 106, op := Op.move (Operand.tmp 7), type := 3, pos := "ref.go:33", after := #[{ on := 19, ground := Ground.guard }], guard := some (19, false) }) (v := undef) rfl (by kernel_rfl) (by kernel_rfl) (by kernel_rfl) (fun _ _ _ h => h) (Or.inr ⟨by rfl, rfl⟩) (by assumption) ?_
                    try simp only [Act.put, List.setIfInBounds_toArray, List.set_cons_zero, List.set_cons_succ]
                    refine wpAnyH_take (i := 22) (oi := { dst := some 107, op := Op.indexAddr 22 (Operand.tmp 105) (Operand.tmp 106), type := 0, pos := "ref.go:33", after := #[{ on := 20, ground := Ground.data }, { on := 21, ground := Ground.data }, { on := 19, ground := Ground.guard }], guard := some (19, false) }) (v := undef) rfl (by kernel_rfl) (by kernel_rfl) (by kernel_rfl) (fun _ _ _ h => h) (Or.inr ⟨by rfl, rfl⟩) (by assumption) ?_
                    try simp only [Act.put, List.setIfInBounds_toArray, List.set_cons_zero, List.set_cons_succ]
                    refine wpAnyH_take (i := 23) (oi := { dst := some 108, op := Op.load 3 (Operand.tmp 107), type := 3, pos := "ref.go:33", after := #[{ on := 22, ground := Ground.data }, { on := 19, ground := Ground.guard }], guard := some (19, false) }) (v := undef) rfl (by kernel_rfl) (by kernel_rfl) (by kernel_rfl) (fun _ _ _ h => h) (Or.inr ⟨by rfl, rfl⟩) (by assumption) ?_
                    try simp only [Act.put, List.setIfInBounds_toArray, List.set_cons_zero, List.set_cons_succ]
                    refine wpAnyH_take (i := 24) (oi := { dst := some 109, op := Op.binOp BinOp.gtr 3 (Operand.tmp 108) (Operand.const (Value.int IntKind.i64 0)) 3, type := 4, pos := "ref.go:33", after := #[{ on := 23, ground := Ground.data }, { on := 19, ground := Ground.guard }], guard := some (19, false) }) (v := undef) rfl (by kernel_rfl) (by kernel_rfl) (by kernel_rfl) (fun _ _ _ h => h) (Or.inr ⟨by rfl, rfl⟩) (by assumption) ?_
                    try simp only [Act.put, List.setIfInBounds_toArray, List.set_cons_zero, List.set_cons_succ]
                    refine wpAnyH_take (i := 25) (oi := { dst := some 110, op := Op.move (Operand.tmp 109), type := 4, pos := "ref.go:33", after := #[{ on := 24, ground := Ground.data }, { on := 19, ground := Ground.chain }, { on := 19, ground := Ground.guard }], guard := some (19, false) }) (v := undef) rfl (by kernel_rfl) (by kernel_rfl) (by kernel_rfl) (fun _ _ _ h => h) (Or.inr ⟨by rfl, rfl⟩) (by assumption) ?_
                    try simp only [Act.put, List.setIfInBounds_toArray, List.set_cons_zero, List.set_cons_succ]
                    refine wpAnyH_take (i := 26) (oi := { dst := some 111, op := Op.load 34 (Operand.tmp 8), type := 34, pos := "ref.go:33", after := #[{ on := 25, ground := Ground.guard }], guard := some (25, true) }) (v := undef) rfl (by kernel_rfl) (by kernel_rfl) (by kernel_rfl) (fun _ _ _ h => h) (Or.inr ⟨by rfl, rfl⟩) (by assumption) ?_
                    try simp only [Act.put, List.setIfInBounds_toArray, List.set_cons_zero, List.set_cons_succ]
                    refine wpAnyH_take (i := 27) (oi := { dst := some 112, op := Op.call { callee := Callee.value (Operand.func 37), args := #[Operand.tmp 111], argTypes := #[34] }, type := 4, pos := "ref.go:33", after := #[{ on := 26, ground := Ground.data }, { on := 25, ground := Ground.chain }, { on := 25, ground := Ground.guard }], guard := some (25, true) }) (v := undef) rfl (by kernel_rfl) (by kernel_rfl) (by kernel_rfl) (fun _ _ _ h => h) (Or.inr ⟨by rfl, rfl⟩) (by assumption) ?_
                    try simp only [Act.put, List.setIfInBounds_toArray, List.set_cons_zero, List.set_cons_succ]
                    refine wpAnyH_take (i := 28) (oi := { dst := some 113, op := Op.unOp UnOp.not 4 (Operand.tmp 112), type := 4, pos := "ref.go:33", after := #[{ on := 27, ground := Ground.data }, { on := 25, ground := Ground.guard }], guard := some (25, true) }) (v := undef) rfl (by kernel_rfl) (by kernel_rfl) (by kernel_rfl) (fun _ _ _ h => h) (Or.inr ⟨by rfl, rfl⟩) (by assumption) ?_
                    try simp only [Act.put, List.setIfInBounds_toArray, List.set_cons_zero, List.set_cons_succ]
                    refine wpAnyH_take (i := 29) (oi := { dst := some 114, op := Op.pick (Operand.tmp 110) (Operand.tmp 113) (Operand.const (Value.bool false)), type := 4, pos := "ref.go:33", after := #[{ on := 25, ground := Ground.data }, { on := 28, ground := Ground.data }, { on := 19, ground := Ground.guard }], guard := some (19, false) }) (v := undef) rfl (by kernel_rfl) (by kernel_rfl) (by kernel_rfl) (fun _ _ _ h => h) (Or.inr ⟨by rfl, rfl⟩) (by assumption) ?_
                    try simp only [Act.put, List.setIfInBounds_toArray, List.set_cons_zero, List.set_cons_succ]
                    refine wpAnyH_take (i := 30) (oi := { dst := some 115, op := Op.pick (Operand.tmp 104) (Operand.const (Value.bool true)) (Operand.tmp 114), type := 4, pos := "ref.go:33", after := #[{ on := 19, ground := Ground.data }, { on := 29, ground := Ground.data }], guard := none }) (v := ?_) rfl (by kernel_rfl) (by kernel_rfl) (by kernel_rfl) (fun _ _ _ h => h) (Or.inl ⟨by rfl, ?_⟩) (by assumption) ?_
                    rotate_left
                    focus ((intro w hSw; (try dsimp only at hSw); go_simp) <;> (try with_reducible rfl))
                    try simp only [Act.put, List.setIfInBounds_toArray, List.set_cons_zero, List.set_cons_succ]
                    refine wpAnyH_done (by kernel_rfl) ?_ _
                    go_wp2_with fail
                    go_ret
                    exact RetW.mk (by rw [HV.out]; try rfl) HBX.out.drew
                  subst hn2
                  have hn3 : ¬ cu = 0 := fun e => HN.out ⟨rfl, rfl, rfl, e⟩
                  refine wp_region_held_drew (S := fun w' => w'.cell? ⟨A, 0, none⟩ = some (.int .i64 0) ∧ w'.cell? ⟨A, 1, none⟩ = some (.int .i64 0) ∧ w'.cell? ⟨A, 2, none⟩ = some (.int .i64 0) ∧ w'.cell? ⟨A, 3, none⟩ = some (.int .i64 cu) ∧ w'.cell? ⟨A, 4, none⟩ = some (.int .i64 0) ∧ w'.cell? ⟨w.heap.size + 1, k, none⟩ = some (.int .i64 0)) (by kernel_rfl) (by (try dsimp only); go_keep) (fun hHeld => ?_)
                  refine wpAnyH_take (i := 0) (oi := { dst := some 85, op := Op.fieldAddr 34 (Operand.tmp 8) 4, type := 0, pos := "ref.go:33", after := #[], guard := none }) (v := ?_) rfl (by kernel_rfl) (by kernel_rfl) (by kernel_rfl) (fun _ _ _ h => h) (Or.inl ⟨by rfl, ?_⟩) (by assumption) ?_
                  rotate_left
                  focus ((intro w hSw; (try dsimp only at hSw); go_simp) <;> (try with_reducible rfl))
                  try simp only [Act.put, List.setIfInBounds_toArray, List.set_cons_zero, List.set_cons_succ]
                  refine wpAnyH_take (i := 1) (oi := { dst := some 86, op := Op.load 3 (Operand.tmp 85), type := 3, pos := "ref.go:33", after := #[{ on := 0, ground := Ground.data }], guard := none }) (v := ?_) rfl (by kernel_rfl) (by kernel_rfl) (by kernel_rfl) (fun _ _ _ h => h) (Or.inl ⟨by rfl, ?_⟩) (by assumption) ?_
                  rotate_left
                  focus ((intro w hSw; (try dsimp only at hSw); go_simp) <;> (try with_reducible rfl))
                  try simp only [Act.put, List.setIfInBounds_toArray, List.set_cons_zero, List.set_cons_succ]
                  refine wpAnyH_take (i := 2) (oi := { dst := some 87, op := Op.move (Operand.tmp 3), type := 22, pos := "ref.go:33", after := #[], guard := none }) (v := ?_) rfl (by kernel_rfl) (by kernel_rfl) (by kernel_rfl) (fun _ _ _ h => h) (Or.inl ⟨by rfl, ?_⟩) (by assumption) ?_
                  rotate_left
                  focus ((intro w hSw; (try dsimp only at hSw); go_simp) <;> (try with_reducible rfl))
                  try simp only [Act.put, List.setIfInBounds_toArray, List.set_cons_zero, List.set_cons_succ]
                  refine wpAnyH_take (i := 3) (oi := { dst := some 88, op := Op.move (Operand.tmp 7), type := 3, pos := "ref.go:33", after := #[], guard := none }) (v := ?_) rfl (by kernel_rfl) (by kernel_rfl) (by kernel_rfl) (fun _ _ _ h => h) (Or.inl ⟨by rfl, ?_⟩) (by assumption) ?_
                  rotate_left
                  focus ((intro w hSw; (try dsimp only at hSw); go_simp) <;> (try with_reducible rfl))
                  try simp only [Act.put, List.setIfInBounds_toArray, List.set_cons_zero, List.set_cons_succ]
                  refine wpAnyH_take (i := 4) (oi := { dst := some 89, op := Op.indexAddr 22 (Operand.tmp 87) (Operand.tmp 88), type := 0, pos := "ref.go:33", after := #[{ on := 2, ground := Ground.data }, { on := 3, ground := Ground.data }], guard := none }) (v := ?_) rfl (by kernel_rfl) (by kernel_rfl) (by kernel_rfl) (fun _ _ _ h => h) (Or.inl ⟨by rfl, ?_⟩) (by assumption) ?_
                  rotate_left
                  focus ((intro w hSw; (try dsimp only at hSw); go_simp) <;> (try with_reducible rfl))
                  try simp only [Act.put, List.setIfInBounds_toArray, List.set_cons_zero, List.set_cons_succ]
                  refine wpAnyH_take (i := 5) (oi := { dst := some 90, op := Op.load 3 (Operand.tmp 89), type := 3, pos := "ref.go:33", after := #[{ on := 4, ground := Ground.data }], guard := none }) (v := ?_) rfl (by kernel_rfl) (by kernel_rfl) (by kernel_rfl) (fun _ _ _ h => h) (Or.inl ⟨by rfl, ?_⟩) (by assumption) ?_
                  rotate_left
                  focus ((intro w hSw; (try dsimp only at hSw); go_simp) <;> (try with_reducible rfl))
                  try simp only [Act.put, List.setIfInBounds_toArray, List.set_cons_zero, List.set_cons_succ]
                  refine wpAnyH_take (i := 6) (oi := { dst := some 91, op := Op.binOp BinOp.neq 3 (Operand.tmp 86) (Operand.tmp 90) 3, type := 4, pos := "ref.go:33", after := #[{ on := 1, ground := Ground.data }, { on := 5, ground := Ground.data }], guard := none }) (v := ?_) rfl (by kernel_rfl) (by kernel_rfl) (by kernel_rfl) (fun _ _ _ h => h) (Or.inl ⟨by rfl, ?_⟩) (by assumption) ?_
                  rotate_left
                  focus ((intro w hSw; (try dsimp only at hSw); go_simp) <;> (try with_reducible rfl))
                  try simp only [Act.put, List.setIfInBounds_toArray, List.set_cons_zero, List.set_cons_succ]
                  refine wpAnyH_take (i := 7) (oi := { dst := some 92, op := Op.move (Operand.tmp 91), type := 4, pos := "ref.go:33", after := #[{ on := 6, ground := Ground.data }], guard := none }) (v := ?_) rfl (by kernel_rfl) (by kernel_rfl) (by kernel_rfl) (fun _ _ _ h => h) (Or.inl ⟨by rfl, ?_⟩) (by assumption) ?_
                  rotate_left
                  focus ((intro w hSw; (try dsimp only at hSw); go_simp) <;> (try with_reducible rfl))
                  try simp only [Act.put, List.setIfInBounds_toArray, List.set_cons_zero, List.set_cons_succ]
                  refine wpAnyH_take (i := 8) (oi := { dst := some 93, op := Op.move (Operand.tmp 3), type := 22, pos := "ref.go:33", after := #[{ on := 7, ground := Ground.guard }], guard := some (7, false) }) (v := ?_) rfl (by kernel_rfl) (by kernel_rfl) (by kernel_rfl) (fun _ _ _ h => h) (Or.inl ⟨by rfl, ?_⟩) (by assumption) ?_
                  rotate_left
                  focus ((intro w hSw; (try dsimp only at hSw); go_simp) <;> (try with_reducible rfl))
                  try simp only [Act.put, List.setIfInBounds_toArray, List.set_cons_zero, List.set_cons_succ]
                  refine wpAnyH_take (i := 9) (oi := { dst := some 94, op := Op.move (Operand.tmp 7), type := 3, pos := "ref.go:33", after := #[{ on := 7, ground := Ground.guard }], guard := some (7, false) }) (v := ?_) rfl (by kernel_rfl) (by kernel_rfl) (by kernel_rfl) (fun _ _ _ h => h) (Or.inl ⟨by rfl, ?_⟩) (by assumption) ?_
                  rotate_left
                  focus ((intro w hSw; (try dsimp only at hSw); go_simp) <;> (try with_reducible rfl))
                  try simp only [Act.put, List.setIfInBounds_toArray, List.set_cons_zero, List.set_cons_succ]
                  refine wpAnyH_take (i := 10) (oi := { dst := some 95, op := Op.indexAddr 22 (Operand.tmp 93) (Operand.tmp 94), type := 0, pos := "ref.go:33", after := #[{ on := 8, ground := Ground.data }, { on := 9, ground := Ground.data }, { on := 7, ground := Ground.guard }], guard := some (7, false) }) (v := ?_) rfl (by kernel_rfl) (by kernel_rfl) (by kernel_rfl) (fun _ _ _ h => h) (Or.inl ⟨by rfl, ?_⟩) (by assumption) ?_
                  rotate_left
                  focus ((intro w hSw; (try dsimp only at hSw); go_simp) <;> (try with_reducible rfl))
                  try simp only [Act.put, List.setIfInBounds_toArray, List.set_cons_zero, List.set_cons_succ]
                  refine wpAnyH_take (i := 11) (oi := { dst := some 96, op := Op.load 3 (Operand.tmp 95), type := 3, pos := "ref.go:33", after := #[{ on := 10, ground := Ground.data }, { on := 7, ground := Ground.guard }], guard := some (7, false) }) (v := ?_) rfl (by kernel_rfl) (by kernel_rfl) (by kernel_rfl) (fun _ _ _ h => h) (Or.inl ⟨by rfl, ?_⟩) (by assumption) ?_
                  rotate_left
                  focus ((intro w hSw; (try dsimp only at hSw); go_simp) <;> (try with_reducible rfl))
                  try simp only [Act.put, List.setIfInBounds_toArray, List.set_cons_zero, List.set_cons_succ]
                  refine wpAnyH_take (i := 12) (oi := { dst := some 97, op := Op.binOp BinOp.eql 3 (Operand.tmp 96) (Operand.const (Value.int IntKind.i64 0)) 3, type := 4, pos := "ref.go:33", after := #[{ on := 11, ground := Ground.data }, { on := 7, ground := Ground.guard }], guard := some (7, false) }) (v := ?_) rfl (by kernel_rfl) (by kernel_rfl) (by kernel_rfl) (fun _ _ _ h => h) (Or.inl ⟨by rfl, ?_⟩) (by assumption) ?_
                  rotate_left
                  focus ((intro w hSw; (try dsimp only at hSw); go_simp) <;> (try with_reducible rfl))
                  try simp only [Act.put, List.setIfInBounds_toArray, List.set_cons_zero, List.set_cons_succ]
                  refine wpAnyH_take (i := 13) (oi := { dst := some 98, op := Op.move (Operand.tmp 97), type := 4, pos := "ref.go:33", after := #[{ on := 12, ground := Ground.data }, { on := 7, ground := Ground.chain }, { on := 7, ground := Ground.guard }], guard := some (7, false) }) (v := ?_) rfl (by kernel_rfl) (by kernel_rfl) (by kernel_rfl) (fun _ _ _ h => h) (Or.inl ⟨by rfl, ?_⟩) (by assumption) ?_
                  rotate_left
                  focus ((intro w hSw; (try dsimp only at hSw); go_simp) <;> (try with_reducible rfl))
                  try simp only [Act.put, List.setIfInBounds_toArray, List.set_cons_zero, List.set_cons_succ]
                  refine wpAnyH_take (i := 14) (oi := { dst := some 99, op := Op.load 34 (Operand.tmp 8), type := 34, pos := "ref.go:33", after := #[{ on := 13, ground := Ground.guard }], guard := some (13, true) }) (v := ?_) rfl (by kernel_rfl) (by kernel_rfl) (by kernel_rfl) (fun _ _ _ h => h) (Or.inl ⟨by rfl, ?_⟩) (by assumption) ?_
                  rotate_left
                  focus ((intro w hSw; (try dsimp only at hSw); go_simp) <;> (try with_reducible rfl))
                  try simp only [Act.put, List.setIfInBounds_toArray, List.set_cons_zero, List.set_cons_succ]
                  refine wpAnyH_take (i := 15) (oi := { dst := some 100, op := Op.build 34 #[], type := 34, pos := "ref.go:33", after := #[{ on := 13, ground := Ground.guard }], guard := some (13, true) }) (v := ?_) rfl (by kernel_rfl) (by kernel_rfl) (by kernel_rfl) (fun _ _ _ h => h) (Or.inl ⟨by rfl, ?_⟩) (by assumption) ?_
                  rotate_left
                  focus ((intro w hSw; (try dsimp only at hSw); go_simp) <;> (try with_reducible rfl))
                  try simp only [Act.put, List.setIfInBounds_toArray, List.set_cons_zero, List.set_cons_succ]
                  refine wpAnyH_take (i := 16) (oi := { dst := some 101, op := Op.binOp BinOp.neq 34 (Operand.tmp 99) (Operand.tmp 100) 34, type := 4, pos := "ref.go:33", after := #[{ on := 14, ground := Ground.data }, { on := 15, ground := Ground.data }, { on := 13, ground := Ground.guard }], guard := some (13, true) }) (v := ?_) rfl (by kernel_rfl) (by kernel_rfl) (by kernel_rfl) (fun _ _ _ h => h) (Or.inl ⟨by rfl, ?_⟩) (by assumption) ?_
                  rotate_left
                  focus ((intro w hSw; (try dsimp only at hSw); go_simp) <;> (try with_reducible rfl))
                  try simp only [Act.put, List.setIfInBounds_toArray, List.set_cons_zero, List.set_cons_succ]
                  refine wpAnyH_take (i := 17) (oi := { dst := some 102, op := Op.pick (Operand.tmp 98) (Operand.tmp 101) (Operand.const (Value.bool false)), type := 4, pos := "ref.go:33", after := #[{ on := 13, ground := Ground.data }, { on := 16, ground := Ground.data }, { on := 7, ground := Ground.guard }], guard := some (7, false) }) (v := ?_) rfl (by kernel_rfl) (by kernel_rfl) (by kernel_rfl) (fun _ _ _ h => h) (Or.inl ⟨by rfl, ?_⟩) (by assumption) ?_
                  rotate_left
                  focus ((intro w hSw; (try dsimp only at hSw); go_simp) <;> (try with_reducible rfl))
                  try simp only [Act.put, List.setIfInBounds_toArray, List.set_cons_zero, List.set_cons_succ]
                  refine wpAnyH_take (i := 18) (oi := { dst := some 103, op := Op.pick (Operand.tmp 92) (Operand.const (Value.bool true)) (Operand.tmp 102), type := 4, pos := "ref.go:33", after := #[{ on := 7, ground := Ground.data }, { on := 17, ground := Ground.data }], guard := none }) (v := ?_) rfl (by kernel_rfl) (by kernel_rfl) (by kernel_rfl) (fun _ _ _ h => h) (Or.inl ⟨by rfl, ?_⟩) (by assumption) ?_
                  rotate_left
                  focus ((intro w hSw; (try dsimp only at hSw); go_simp) <;> (try with_reducible rfl))
                  try simp only [Act.put, List.setIfInBounds_toArray, List.set_cons_zero, List.set_cons_succ]
                  refine wpAnyH_take (i := 19) (oi := { dst := some 104, op := Op.move (Operand.tmp 103), type := 4, pos := "ref.go:33", after := #[{ on := 18, ground := Ground.data }, { on := 13, ground := Ground.chain }], guard := none }) (v := ?_) rfl (by kernel_rfl) (by kernel_rfl) (by kernel_rfl) (fun _ _ _ h => h) (Or.inl ⟨by rfl, ?_⟩) (by assumption) ?_
                  rotate_left
                  focus ((intro w hSw; (try dsimp only at hSw); go_simp) <;> (try with_reducible rfl))
                  try simp only [Act.put, List.setIfInBounds_toArray, List.set_cons_zero, List.set_cons_succ]
                  refine wpAnyH_take (i := 20) (oi := { dst := some 105, op := Op.move (Operand.tmp 3), type := 22, pos := "ref.go:33", after := #[{ on := 19, ground := Ground.guard }], guard := some (19, false) }) (v := undef) rfl (by kernel_rfl) (by kernel_rfl) (by kernel_rfl) (fun _ _ _ h => h) (Or.inr ⟨by rfl, rfl⟩) (by assumption) ?_
                  try simp only [Act.put, List.setIfInBounds_toArray, List.set_cons_zero, List.set_cons_succ]
                  refine wpAnyH_take (i := 21) (oi := { dst := some 106, op := Op.move (Operand.tmp 7), type := 3, pos := "ref.go:33", after := #[{ on := 19, ground := Ground.guard }], guard := some (19, false) }) (v := undef) rfl (by kernel_rfl) (by kernel_rfl) (by kernel_rfl) (fun _ _ _ h => h) (Or.inr ⟨by rfl, rfl⟩) (by assumption) ?_
                  try simp only [Act.put, List.setIfInBounds_toArray, List.set_cons_zero, List.set_cons_succ]
                  refine wpAnyH_take (i := 22) (oi := { dst := some 107, op := Op.indexAddr 22 (Operand.tmp 105) (Operand.tmp 106), type := 0, pos := "ref.go:33", after := #[{ on := 20, ground := Ground.data }, { on := 21, ground := Ground.data }, { on := 19, ground := Ground.guard }], guard := some (19, false) }) (v := undef) rfl (by kernel_rfl) (by kernel_rfl) (by kernel_rfl) (fun _ _ _ h => h) (Or.inr ⟨by rfl, rfl⟩) (by assumption) ?_
                  try simp only [Act.put, List.setIfInBounds_toArray, List.set_cons_zero, List.set_cons_succ]
                  refine wpAnyH_take (i := 23) (oi := { dst := some 108, op := Op.load 3 (Operand.tmp 107), type := 3, pos := "ref.go:33", after := #[{ on := 22, ground := Ground.data }, { on := 19, ground := Ground.guard }], guard := some (19, false) }) (v := undef) rfl (by kernel_rfl) (by kernel_rfl) (by kernel_rfl) (fun _ _ _ h => h) (Or.inr ⟨by rfl, rfl⟩) (by assumption) ?_
                  try simp only [Act.put, List.setIfInBounds_toArray, List.set_cons_zero, List.set_cons_succ]
                  refine wpAnyH_take (i := 24) (oi := { dst := some 109, op := Op.binOp BinOp.gtr 3 (Operand.tmp 108) (Operand.const (Value.int IntKind.i64 0)) 3, type := 4, pos := "ref.go:33", after := #[{ on := 23, ground := Ground.data }, { on := 19, ground := Ground.guard }], guard := some (19, false) }) (v := undef) rfl (by kernel_rfl) (by kernel_rfl) (by kernel_rfl) (fun _ _ _ h => h) (Or.inr ⟨by rfl, rfl⟩) (by assumption) ?_
                  try simp only [Act.put, List.setIfInBounds_toArray, List.set_cons_zero, List.set_cons_succ]
                  refine wpAnyH_take (i := 25) (oi := { dst := some 110, op := Op.move (Operand.tmp 109), type := 4, pos := "ref.go:33", after := #[{ on := 24, ground := Ground.data }, { on := 19, ground := Ground.chain }, { on := 19, ground := Ground.guard }], guard := some (19, false) }) (v := undef) rfl (by kernel_rfl) (by kernel_rfl) (by kernel_rfl) (fun _ _ _ h => h) (Or.inr ⟨by rfl, rfl⟩) (by assumption) ?_
                  try simp only [Act.put, List.setIfInBounds_toArray, List.set_cons_zero, List.set_cons_succ]
                  refine wpAnyH_take (i := 26) (oi := { dst := some 111, op := Op.load 34 (Operand.tmp 8), type := 34, pos := "ref.go:33", after := #[{ on := 25, ground := Ground.guard }], guard := some (25, true) }) (v := undef) rfl (by kernel_rfl) (by kernel_rfl) (by kernel_rfl) (fun _ _ _ h => h) (Or.inr ⟨by rfl, rfl⟩) (by assumption) ?_
                  try simp only [Act.put, List.setIfInBounds_toArray, List.set_cons_zero, List.set_cons_succ]
                  refine wpAnyH_take (i := 27) (oi := { dst := some 112, op := Op.call { callee := Callee.value (Operand.func 37), args := #[Operand.tmp 111], argTypes := #[34] }, type := 4, pos := "ref.go:33", after := #[{ on := 26, ground := Ground.data }, { on := 25, ground := Ground.chain }, { on := 25, ground := Ground.guard }], guard := some (25, true) }) (v := undef) rfl (by kernel_rfl) (by kernel_rfl) (by kernel_rfl) (fun _ _ _ h => h) (Or.inr ⟨by rfl, rfl⟩) (by assumption) ?_
                  try simp only [Act.put, List.setIfInBounds_toArray, List.set_cons_zero, List.set_cons_succ]
                  refine wpAnyH_take (i := 28) (oi := { dst := some 113, op := Op.unOp UnOp.not 4 (Operand.tmp 112), type := 4, pos := "ref.go:33", after := #[{ on := 27, ground := Ground.data }, { on := 25, ground := Ground.guard }], guard := some (25, true) }) (v := undef) rfl (by kernel_rfl) (by kernel_rfl) (by kernel_rfl) (fun _ _ _ h => h) (Or.inr ⟨by rfl, rfl⟩) (by assumption) ?_
                  try simp only [Act.put, List.setIfInBounds_toArray, List.set_cons_zero, List.set_cons_succ]
                  refine wpAnyH_take (i := 29) (oi := { dst := some 114, op := Op.pick (Operand.tmp 110) (Operand.tmp 113) (Operand.const (Value.bool false)), type := 4, pos := "ref.go:33", after := #[{ on := 25, ground := Ground.data }, { on := 28, ground := Ground.data }, { on := 19, ground := Ground.guard }], guard := some (19, false) }) (v := undef) rfl (by kernel_rfl) (by kernel_rfl) (by kernel_rfl) (fun _ _ _ h => h) (Or.inr ⟨by rfl, rfl⟩) (by assumption) ?_
                  try simp only [Act.put, List.setIfInBounds_toArray, List.set_cons_zero, List.set_cons_succ]
                  refine wpAnyH_take (i := 30) (oi := { dst := some 115, op := Op.pick (Operand.tmp 104) (Operand.const (Value.bool true)) (Operand.tmp 114), type := 4, pos := "ref.go:33", after := #[{ on := 19, ground := Ground.data }, { on := 29, ground := Ground.data }], guard := none }) (v := ?_) rfl (by kernel_rfl) (by kernel_rfl) (by kernel_rfl) (fun _ _ _ h => h) (Or.inl ⟨by rfl, ?_⟩) (by assumption) ?_
                  rotate_left
                  focus ((intro w hSw; (try dsimp only at hSw); go_simp) <;> (try with_reducible rfl))
                  try simp only [Act.put, List.setIfInBounds_toArray, List.set_cons_zero, List.set_cons_succ]
                  refine wpAnyH_done (by kernel_rfl) ?_ _
                  go_wp2_with fail
                  go_ret
                  exact RetW.mk (by rw [HV.out]; try rfl) HBX.out.drew
              · have hpos : 0 < rf := by omega
                have hc1 : (rf == 0) = false := by simpa using hc0
                have hit : itemR rf ⟨fi, fl, f, cu, rf⟩ = rightD ⟨fi, fl, f, cu, rf⟩ := by
                  unfold itemR
                  rw [if_neg hc0, decide_eq_true rfl, Bool.true_and]
                rw [hit] at HIk HJk
                have HFX := Lib.hid (fun W => right_doc ⟨fi, fl, f, cu, rf⟩ W)
                simp only [dnVal] at HFX
                clear hit
                generalize rightD ⟨fi, fl, f, cu, rf⟩ = b1 at *
                have hsN : w.heap.size + 1 < wa.heap.size := by omega
                cases b1 with
                | false =>
                  have HV := Lib.hid (HIk.out rfl)
                  refine wp_region_held_drew (S := fun w' => w'.cell? ⟨A, 0, none⟩ = some (.int .i64 fi) ∧ w'.cell? ⟨A, 1, none⟩ = some (.int .i64 fl) ∧ w'.cell? ⟨A, 2, none⟩ = some (.int .i64 f) ∧ w'.cell? ⟨A, 3, none⟩ = some (.int .i64 cu) ∧ w'.cell? ⟨A, 4, none⟩ = some (.int .i64 rf) ∧ w'.cell? ⟨w.heap.size + 1, k, none⟩ = some (.int .i64 rf)) (by kernel_rfl) (by (try dsimp only); go_keep) (fun hHeld => ?_)
                  refine wpAnyH_take (i := 0) (oi := { dst := some 85, op := Op.fieldAddr 34 (Operand.tmp 8) 4, type := 0, pos := "ref.go:33", after := #[], guard := none }) (v := ?_) rfl (by kernel_rfl) (by kernel_rfl) (by kernel_rfl) (fun _ _ _ h => h) (Or.inl ⟨by rfl, ?_⟩) (by assumption) ?_
                  rotate_left
                  focus ((intro w hSw; (try dsimp only at hSw); go_simp) <;> (try with_reducible rfl))
                  try simp only [Act.put, List.setIfInBounds_toArray, List.set_cons_zero, List.set_cons_succ]
                  refine wpAnyH_take (i := 1) (oi := { dst := some 86, op := Op.load 3 (Operand.tmp 85), type := 3, pos := "ref.go:33", after := #[{ on := 0, ground := Ground.data }], guard := none }) (v := ?_) rfl (by kernel_rfl) (by kernel_rfl) (by kernel_rfl) (fun _ _ _ h => h) (Or.inl ⟨by rfl, ?_⟩) (by assumption) ?_
                  rotate_left
                  focus ((intro w hSw; (try dsimp only at hSw); go_simp) <;> (try with_reducible rfl))
                  try simp only [Act.put, List.setIfInBounds_toArray, List.set_cons_zero, List.set_cons_succ]
                  refine wpAnyH_take (i := 2) (oi := { dst := some 87, op := Op.move (Operand.tmp 3), type := 22, pos := "ref.go:33", after := #[], guard := none }) (v := ?_) rfl (by kernel_rfl) (by kernel_rfl) (by kernel_rfl) (fun _ _ _ h => h) (Or.inl ⟨by rfl, ?_⟩) (by assumption) ?_
                  rotate_left
                  focus ((intro w hSw; (try dsimp only at hSw); go_simp) <;> (try with_reducible rfl))
                  try simp only [Act.put, List.setIfInBounds_toArray, List.set_cons_zero, List.set_cons_succ]
                  refine wpAnyH_take (i := 3) (oi := { dst := some 88, op := Op.move (Operand.tmp 7), type := 3, pos := "ref.go:33", after := #[], guard := none }) (v := ?_) rfl (by kernel_rfl) (by kernel_rfl) (by kernel_rfl) (fun _ _ _ h => h) (Or.inl ⟨by rfl, ?_⟩) (by assumption) ?_
                  rotate_left
                  focus ((intro w hSw; (try dsimp only at hSw); go_simp) <;> (try with_reducible rfl))
                  try simp only [Act.put, List.setIfInBounds_toArray, List.set_cons_zero, List.set_cons_succ]
                  refine wpAnyH_take (i := 4) (oi := { dst := some 89, op := Op.indexAddr 22 (Operand.tmp 87) (Operand.tmp 88), type := 0, pos := "ref.go:33", after := #[{ on := 2, ground := Ground.data }, { on := 3, ground := Ground.data }], guard := none }) (v := ?_) rfl (by kernel_rfl) (by kernel_rfl) (by kernel_rfl) (fun _ _ _ h => h) (Or.inl ⟨by rfl, ?_⟩) (by assumption) ?_
                  rotate_left
                  focus ((intro w hSw; (try dsimp only at hSw); go_simp) <;> (try with_reducible rfl))
                  try simp only [Act.put, List.setIfInBounds_toArray, List.set_cons_zero, List.set_cons_succ]
                  refine wpAnyH_take (i := 5) (oi := { dst := some 90, op := Op.load 3 (Operand.tmp 89), type := 3, pos := "ref.go:33", after := #[{ on := 4, ground := Ground.data }], guard := none }) (v := ?_) rfl (by kernel_rfl) (by kernel_rfl) (by kernel_rfl) (fun _ _ _ h => h) (Or.inl ⟨by rfl, ?_⟩) (by assumption) ?_
                  rotate_left
                  focus ((intro w hSw; (try dsimp only at hSw); go_simp) <;> (try with_reducible rfl))
                  try simp only [Act.put, List.setIfInBounds_toArray, List.set_cons_zero, List.set_cons_succ]
                  refine wpAnyH_take (i := 6) (oi := { dst := some 91, op := Op.binOp BinOp.neq 3 (Operand.tmp 86) (Operand.tmp 90) 3, type := 4, pos := "ref.go:33", after := #[{ on := 1, ground := Ground.data }, { on := 5, ground := Ground.data }], guard := none }) (v := ?_) rfl (by kernel_rfl) (by kernel_rfl) (by kernel_rfl) (fun _ _ _ h => h) (Or.inl ⟨by rfl, ?_⟩) (by assumption) ?_
                  rotate_left
                  focus ((intro w hSw; (try dsimp only at hSw); go_simp) <;> (try with_reducible rfl))
                  try simp only [Act.put, List.setIfInBounds_toArray, List.set_cons_zero, List.set_cons_succ]
                  refine wpAnyH_take (i := 7) (oi := { dst := some 92, op := Op.move (Operand.tmp 91), type := 4, pos := "ref.go:33", after := #[{ on := 6, ground := Ground.data }], guard := none }) (v := ?_) rfl (by kernel_rfl) (by kernel_rfl) (by kernel_rfl) (fun _ _ _ h => h) (Or.inl ⟨by rfl, ?_⟩) (by assumption) ?_
                  rotate_left
                  focus ((intro w hSw; (try dsimp only at hSw); go_simp) <;> (try with_reducible rfl))
                  try simp only [Act.put, List.setIfInBounds_toArray, List.set_cons_zero, List.set_cons_succ]
                  refine wpAnyH_take (i := 8) (oi := { dst := some 93, op := Op.move (Operand.tmp 3), type := 22, pos := "ref.go:33", after := #[{ on := 7, ground := Ground.guard }], guard := some (7, false) }) (v := ?_) rfl (by kernel_rfl) (by kernel_rfl) (by kernel_rfl) (fun _ _ _ h => h) (Or.inl ⟨by rfl, ?_⟩) (by assumption) ?_
                  rotate_left
                  focus ((intro w hSw; (try dsimp only at hSw); go_simp) <;> (try with_reducible rfl))
                  try simp only [Act.put, List.setIfInBounds_toArray, List.set_cons_zero, List.set_cons_succ]
                  refine wpAnyH_take (i := 9) (oi := { dst := some 94, op := Op.move (Operand.tmp 7), type := 3, pos := "ref.go:33", after := #[{ on := 7, ground := Ground.guard }], guard := some (7, false) }) (v := ?_) rfl (by kernel_rfl) (by kernel_rfl) (by kernel_rfl) (fun _ _ _ h => h) (Or.inl ⟨by rfl, ?_⟩) (by assumption) ?_
                  rotate_left
                  focus ((intro w hSw; (try dsimp only at hSw); go_simp) <;> (try with_reducible rfl))
                  try simp only [Act.put, List.setIfInBounds_toArray, List.set_cons_zero, List.set_cons_succ]
                  refine wpAnyH_take (i := 10) (oi := { dst := some 95, op := Op.indexAddr 22 (Operand.tmp 93) (Operand.tmp 94), type := 0, pos := "ref.go:33", after := #[{ on := 8, ground := Ground.data }, { on := 9, ground := Ground.data }, { on := 7, ground := Ground.guard }], guard := some (7, false) }) (v := ?_) rfl (by kernel_rfl) (by kernel_rfl) (by kernel_rfl) (fun _ _ _ h => h) (Or.inl ⟨by rfl, ?_⟩) (by assumption) ?_
                  rotate_left
                  focus ((intro w hSw; (try dsimp only at hSw); go_simp) <;> (try with_reducible rfl))
                  try simp only [Act.put, List.setIfInBounds_toArray, List.set_cons_zero, List.set_cons_succ]
                  refine wpAnyH_take (i := 11) (oi := { dst := some 96, op := Op.load 3 (Operand.tmp 95), type := 3, pos := "ref.go:33", after := #[{ on := 10, ground := Ground.data }, { on := 7, ground := Ground.guard }], guard := some (7, false) }) (v := ?_) rfl (by kernel_rfl) (by kernel_rfl) (by kernel_rfl) (fun _ _ _ h => h) (Or.inl ⟨by rfl, ?_⟩) (by assumption) ?_
                  rotate_left
                  focus ((intro w hSw; (try dsimp only at hSw); go_simp) <;> (try with_reducible rfl))
                  try simp only [Act.put, List.setIfInBounds_toArray, List.set_cons_zero, List.set_cons_succ]
                  refine wpAnyH_take (i := 12) (oi := { dst := some 97, op := Op.binOp BinOp.eql 3 (Operand.tmp 96) (Operand.const (Value.int IntKind.i64 0)) 3, type := 4, pos := "ref.go:33", after := #[{ on := 11, ground := Ground.data }, { on := 7, ground := Ground.guard }], guard := some (7, false) }) (v := ?_) rfl (by kernel_rfl) (by kernel_rfl) (by kernel_rfl) (fun _ _ _ h => h) (Or.inl ⟨by rfl, ?_⟩) (by assumption) ?_
                  rotate_left
                  focus ((intro w hSw; (try dsimp only at hSw); go_simp) <;> (try with_reducible rfl))
                  try simp only [Act.put, List.setIfInBounds_toArray, List.set_cons_zero, List.set_cons_succ]
                  refine wpAnyH_take (i := 13) (oi := { dst := some 98, op := Op.move (Operand.tmp 97), type := 4, pos := "ref.go:33", after := #[{ on := 12, ground := Ground.data }, { on := 7, ground := Ground.chain }, { on := 7, ground := Ground.guard }], guard := some (7, false) }) (v := ?_) rfl (by kernel_rfl) (by kernel_rfl) (by kernel_rfl) (fun _ _ _ h => h) (Or.inl ⟨by rfl, ?_⟩) (by assumption) ?_
                  rotate_left
                  focus ((intro w hSw; (try dsimp only at hSw); go_simp) <;> (try with_reducible rfl))
                  try simp only [Act.put, List.setIfInBounds_toArray, List.set_cons_zero, List.set_cons_succ]
                  refine wpAnyH_take (i := 14) (oi := { dst := some 99, op := Op.load 34 (Operand.tmp 8), type := 34, pos := "ref.go:33", after := #[{ on := 13, ground := Ground.guard }], guard := some (13, true) }) (v := undef) rfl (by kernel_rfl) (by kernel_rfl) (by kernel_rfl) (fun _ _ _ h => h) (Or.inr ⟨by rfl, rfl⟩) (by assumption) ?_
                  try simp only [Act.put, List.setIfInBounds_toArray, List.set_cons_zero, List.set_cons_succ]
                  refine wpAnyH_take (i := 15) (oi := { dst := some 100, op := Op.build 34 #[], type := 34, pos := "ref.go:33", after := #[{ on := 13, ground := Ground.guard }], guard := some (13, true) }) (v := undef) rfl (by kernel_rfl) (by kernel_rfl) (by kernel_rfl) (fun _ _ _ h => h) (Or.inr ⟨by rfl, rfl⟩) (by assumption) ?_
                  try simp only [Act.put, List.setIfInBounds_toArray, List.set_cons_zero, List.set_cons_succ]
                  refine wpAnyH_take (i := 16) (oi := { dst := some 101, op := Op.binOp BinOp.neq 34 (Operand.tmp 99) (Operand.tmp 100) 34, type := 4, pos := "ref.go:33", after := #[{ on := 14, ground := Ground.data }, { on := 15, ground := Ground.data }, { on := 13, ground := Ground.guard }], guard := some (13, true) }) (v := undef) rfl (by kernel_rfl) (by kernel_rfl) (by kernel_rfl) (fun _ _ _ h => h) (Or.inr ⟨by rfl, rfl⟩) (by assumption) ?_
                  try simp only [Act.put, List.setIfInBounds_toArray, List.set_cons_zero, List.set_cons_succ]
                  refine wpAnyH_take (i := 17) (oi := { dst := some 102, op := Op.pick (Operand.tmp 98) (Operand.tmp 101) (Operand.const (Value.bool false)), type := 4, pos := "ref.go:33", after := #[{ on := 13, ground := Ground.data }, { on := 16, ground := Ground.data }, { on := 7, ground := Ground.guard }], guard := some (7, false) }) (v := ?_) rfl (by kernel_rfl) (by kernel_rfl) (by kernel_rfl) (fun _ _ _ h => h) (Or.inl ⟨by rfl, ?_⟩) (by assumption) ?_
                  rotate_left
                  focus ((intro w hSw; (try dsimp only at hSw); go_simp) <;> (try with_reducible rfl))
                  try simp only [Act.put, List.setIfInBounds_toArray, List.set_cons_zero, List.set_cons_succ]
                  refine wpAnyH_take (i := 18) (oi := { dst := some 103, op := Op.pick (Operand.tmp 92) (Operand.const (Value.bool true)) (Operand.tmp 102), type := 4, pos := "ref.go:33", after := #[{ on := 7, ground := Ground.data }, { on := 17, ground := Ground.data }], guard := none }) (v := ?_) rfl (by kernel_rfl) (by kernel_rfl) (by kernel_rfl) (fun _ _ _ h => h) (Or.inl ⟨by rfl, ?_⟩) (by assumption) ?_
                  rotate_left
                  focus ((intro w hSw; (try dsimp only at hSw); go_simp) <;> (try with_reducible rfl))
                  try simp only [Act.put, List.setIfInBounds_toArray, List.set_cons_zero, List.set_cons_succ]
                  refine wpAnyH_take (i := 19) (oi := { dst := some 104, op := Op.move (Operand.tmp 103), type := 4, pos := "ref.go:33", after := #[{ on := 18, ground := Ground.data }, { on := 13, ground := Ground.chain }], guard := none }) (v := ?_) rfl (by kernel_rfl) (by kernel_rfl) (by kernel_rfl) (fun _ _ _ h => h) (Or.inl ⟨by rfl, ?_⟩) (by assumption) ?_
                  rotate_left
                  focus ((intro w hSw; (try dsimp only at hSw); go_simp) <;> (try with_reducible rfl))
                  try simp only [Act.put, List.setIfInBounds_toArray, List.set_cons_zero, List.set_cons_succ]
                  refine wpAnyH_take (i := 20) (oi := { dst := some 105, op := Op.move (Operand.tmp 3), type := 22, pos := "ref.go:33", after := #[{ on := 19, ground := Ground.guard }], guard := some (19, false) }) (v := ?_) rfl (by kernel_rfl) (by kernel_rfl) (by kernel_rfl) (fun _ _ _ h => h) (Or.inl ⟨by rfl, ?_⟩) (by assumption) ?_
                  rotate_left
                  focus ((intro w hSw; (try dsimp only at hSw); go_simp) <;> (try with_reducible rfl))
                  try simp only [Act.put, List.setIfInBounds_toArray, List.set_cons_zero, List.set_cons_succ]
                  refine wpAnyH_take (i := 21) (oi := { dst := some 106, op := Op.move (Operand.tmp 7), type := 3, pos := "ref.go:33", after := #[{ on := 19, ground := Ground.guard }], guard := some (19, false) }) (v := ?_) rfl (by kernel_rfl) (by kernel_rfl) (by kernel_rfl) (fun _ _ _ h => h) (Or.inl ⟨by rfl, ?_⟩) (by assumption) ?_
                  rotate_left
                  focus ((intro w hSw; (try dsimp only at hSw); go_simp) <;> (try with_reducible rfl))
                  try simp only [Act.put, List.setIfInBounds_toArray, List.set_cons_zero, List.set_cons_succ]
                  refine wpAnyH_take (i := 22) (oi := { dst := some 107, op := Op.indexAddr 22 (Operand.tmp 105) (Operand.tmp 106), type := 0, pos := "ref.go:33", after := #[{ on := 20, ground := Ground.data }, { on := 21, ground := Ground.data }, { on := 19, ground := Ground.guard }], guard := some (19, false) }) (v := ?_) rfl (by kernel_rfl) (by kernel_rfl) (by kernel_rfl) (fun _ _ _ h => h) (Or.inl ⟨by rfl, ?_⟩) (by assumption) ?_
                  rotate_left
                  focus ((intro w hSw; (try dsimp only at hSw); go_simp) <;> (try with_reducible rfl))
                  try simp only [Act.put, List.setIfInBounds_toArray, List.set_cons_zero, List.set_cons_succ]
                  refine wpAnyH_take (i := 23) (oi := { dst := some 108, op := Op.load 3 (Operand.tmp 107), type := 3, pos := "ref.go:33", after := #[{ on := 22, ground := Ground.data }, { on := 19, ground := Ground.guard }], guard := some (19, false) }) (v := ?_) rfl (by kernel_rfl) (by kernel_rfl) (by kernel_rfl) (fun _ _ _ h => h) (Or.inl ⟨by rfl, ?_⟩) (by assumption) ?_
                  rotate_left
                  focus ((intro w hSw; (try dsimp only at hSw); go_simp) <;> (try with_reducible rfl))
                  try simp only [Act.put, List.setIfInBounds_toArray, List.set_cons_zero, List.set_cons_succ]
                  refine wpAnyH_take (i := 24) (oi := { dst := some 109, op := Op.binOp BinOp.gtr 3 (Operand.tmp 108) (Operand.const (Value.int IntKind.i64 0)) 3, type := 4, pos := "ref.go:33", after := #[{ on := 23, ground := Ground.data }, { on := 19, ground := Ground.guard }], guard := some (19, false) }) (v := ?_) rfl (by kernel_rfl) (by kernel_rfl) (by kernel_rfl) (fun _ _ _ h => h) (Or.inl ⟨by rfl, ?_⟩) (by assumption) ?_
                  rotate_left
                  focus ((intro w hSw; (try dsimp only at hSw); go_simp) <;> (try with_reducible rfl))
                  try simp only [Act.put, List.setIfInBounds_toArray, List.set_cons_zero, List.set_cons_succ]
                  refine wpAnyH_take (i := 25) (oi := { dst := some 110, op := Op.move (Operand.tmp 109), type := 4, pos := "ref.go:33", after := #[{ on := 24, ground := Ground.data }, { on := 19, ground := Ground.chain }, { on := 19, ground := Ground.guard }], guard := some (19, false) }) (v := ?_) rfl (by kernel_rfl) (by kernel_rfl) (by kernel_rfl) (fun _ _ _ h => h) (Or.inl ⟨by rfl, ?_⟩) (by assumption) ?_
                  rotate_left
                  focus ((intro w hSw; (try dsimp only at hSw); go_simp) <;> (try with_reducible rfl))
                  try simp only [Act.put, List.setIfInBounds_toArray, List.set_cons_zero, List.set_cons_succ]
                  refine wpAnyH_take (i := 26) (oi := { dst := some 111, op := Op.load 34 (Operand.tmp 8), type := 34, pos := "ref.go:33", after := #[{ on := 25, ground := Ground.guard }], guard := some (25, true) }) (v := ?_) rfl (by kernel_rfl) (by kernel_rfl) (by kernel_rfl) (fun _ _ _ h => h) (Or.inl ⟨by rfl, ?_⟩) (by assumption) ?_
                  rotate_left
                  focus ((intro w hSw; (try dsimp only at hSw); go_simp) <;> (try with_reducible rfl))
                  try simp only [Act.put, List.setIfInBounds_toArray, List.set_cons_zero, List.set_cons_succ]
                  refine wpAnyH_ready (rs := [27]) (by kernel_rfl) (by simp) ?_
                  refine AllReadyH.cons (o := { dst := some 112, op := Op.call { callee := Callee.value (Operand.func 37), args := #[Operand.tmp 111], argTypes := #[34] }, type := 4, pos := "ref.go:33", after := #[{ on := 26, ground := Ground.data }, { on := 25, ground := Ground.chain }, { on := 25, ground := Ground.guard }], guard := some (25, true) }) rfl (fun K hK => ?_) AllReadyH.nil
                  go_simp
                  (first | (go_at_call 37; refine (HFX.out _).mono ?_; rintro e w3 ⟨rfl, hb⟩; have j0 := (hb.cell (p := ⟨A, 0, none⟩) hsA).trans k0; have j1 := (hb.cell (p := ⟨A, 1, none⟩) hsA).trans k1; have j2 := (hb.cell (p := ⟨A, 2, none⟩) hsA).trans k2; have j3 := (hb.cell (p := ⟨A, 3, none⟩) hsA).trans k3; have j4 := (hb.cell (p := ⟨A, 4, none⟩) hsA).trans k4; have jk := (hb.cell (p := ⟨w.heap.size + 1, k, none⟩) hsN).trans fk; have HBZ := Lib.hid (HBX.out.drew.trans (hb.mono HBX.out.drew.size)); have HBY := Lib.hid (HB2.out.drew.trans (hb.mono HB2.out.drew.size))))
                  go_wp2_with fail
                  refine hK.out _ _ (by (try dsimp only); go_keep) (fun hHeld => ?_)
                  clear hK K
                  try simp only [Act.put, List.setIfInBounds_toArray, List.set_cons_zero, List.set_cons_succ]
                  refine wpAnyH_take (i := 28) (oi := { dst := some 113, op := Op.unOp UnOp.not 4 (Operand.tmp 112), type := 4, pos := "ref.go:33", after := #[{ on := 27, ground := Ground.data }, { on := 25, ground := Ground.guard }], guard := some (25, true) }) (v := ?_) rfl (by kernel_rfl) (by kernel_rfl) (by kernel_rfl) (fun _ _ _ h => h) (Or.inl ⟨by rfl, ?_⟩) (by assumption) ?_
                  rotate_left
                  focus ((intro w hSw; (try dsimp only at hSw); go_simp) <;> (try with_reducible rfl))
                  try simp only [Act.put, List.setIfInBounds_toArray, List.set_cons_zero, List.set_cons_succ]
                  refine wpAnyH_take (i := 29) (oi := { dst := some 114, op := Op.pick (Operand.tmp 110) (Operand.tmp 113) (Operand.const (Value.bool false)), type := 4, pos := "ref.go:33", after := #[{ on := 25, ground := Ground.data }, { on := 28, ground := Ground.data }, { on := 19, ground := Ground.guard }], guard := some (19, false) }) (v := ?_) rfl (by kernel_rfl) (by kernel_rfl) (by kernel_rfl) (fun _ _ _ h => h) (Or.inl ⟨by rfl, ?_⟩) (by assumption) ?_
                  rotate_left
                  focus ((intro w hSw; (try dsimp only at hSw); go_simp) <;> (try with_reducible rfl))
                  try simp only [Act.put, List.setIfInBounds_toArray, List.set_cons_zero, List.set_cons_succ]
                  refine wpAnyH_take (i := 30) (oi := { dst := some 115, op := Op.pick (Operand.tmp 104) (Operand.const (Value.bool true)) (Operand.tmp 114), type := 4, pos := "ref.go:33", after := #[{ on := 19, ground := Ground.data }, { on := 29, ground := Ground.data }], guard := none }) (v := ?_) rfl (by kernel_rfl) (by kernel_rfl) (by kernel_rfl) (fun _ _ _ h => h) (Or.inl ⟨by rfl, ?_⟩) (by assumption) ?_
                  rotate_left
                  focus ((intro w hSw; (try dsimp only at hSw); go_simp) <;> (try with_reducible rfl))
                  try simp only [Act.put, List.setIfInBounds_toArray, List.set_cons_zero, List.set_cons_succ]
                  refine wpAnyH_done (by kernel_rfl) ?_ _
                  go_wp2_with fail
                  go_ret
                  exact RetW.mk (by rw [HV.out]; try rfl) HBZ.out
                | true =>
                  have HV := Lib.hid (HJk.out rfl)
                  refine wp_region_held_drew (S := fun w' => w'.cell? ⟨A, 0, none⟩ = some (.int .i64 fi) ∧ w'.cell? ⟨A, 1, none⟩ = some (.int .i64 fl) ∧ w'.cell? ⟨A, 2, none⟩ = some (.int .i64 f) ∧ w'.cell? ⟨A, 3, none⟩ = some (.int .i64 cu) ∧ w'.cell? ⟨A, 4, none⟩ = some (.int .i64 rf) ∧ w'.cell? ⟨w.heap.size + 1, k, none⟩ = some (.int .i64 rf)) (by kernel_rfl) (by (try dsimp only); go_keep) (fun hHeld => ?_)
                  refine wpAnyH_take (i := 0) (oi := { dst := some 85, op := Op.fieldAddr 34 (Operand.tmp 8) 4, type := 0, pos := "ref.go:33", after := #[], guard := none }) (v := ?_) rfl (by kernel_rfl) (by kernel_rfl) (by kernel_rfl) (fun _ _ _ h => h) (Or.inl ⟨by rfl, ?_⟩) (by assumption) ?_
                  rotate_left
                  focus ((intro w hSw; (try dsimp only at hSw); go_simp) <;> (try with_reducible rfl))
                  try simp only [Act.put, List.setIfInBounds_toArray, List.set_cons_zero, List.set_cons_succ]
                  refine wpAnyH_take (i := 1) (oi := { dst := some 86, op := Op.load 3 (Operand.tmp 85), type := 3, pos := "ref.go:33", after := #[{ on := 0, ground := Ground.data }], guard := none }) (v := ?_) rfl (by kernel_rfl) (by kernel_rfl) (by kernel_rfl) (fun _ _ _ h => h) (Or.inl ⟨by rfl, ?_⟩) (by assumption) ?_
                  rotate_left
                  focus ((intro w hSw; (try dsimp only at hSw); go_simp) <;> (try with_reducible rfl))
                  try simp only [Act.put, List.setIfInBounds_toArray, List.set_cons_zero, List.set_cons_succ]
                  refine wpAnyH_take (i := 2) (oi := { dst := some 87, op := Op.move (Operand.tmp 3), type := 22, pos := "ref.go:33", after := #[], guard := none }) (v := ?_) rfl (by kernel_rfl) (by kernel_rfl) (by kernel_rfl) (fun _ _ _ h => h) (Or.inl ⟨by rfl, ?_⟩) (by assumption) ?_
                  rotate_left
                  focus ((intro w hSw; (try dsimp only at hSw); go_simp) <;> (try with_reducible rfl))
                  try simp only [Act.put, List.setIfInBounds_toArray, List.set_cons_zero, List.set_cons_succ]
                  refine wpAnyH_take (i := 3) (oi := { dst := some 88, op := Op.move (Operand.tmp 7), type := 3, pos := "ref.go:33", after := #[], guard := none }) (v := ?_) rfl (by kernel_rfl) (by kernel_rfl) (by kernel_rfl) (fun _ _ _ h => h) (Or.inl ⟨by rfl, ?_⟩) (by assumption) ?_
                  rotate_left
                  focus ((intro w hSw; (try dsimp only at hSw); go_simp) <;> (try with_reducible rfl))
                  try simp only [Act.put, List.setIfInBounds_toArray, List.set_cons_zero, List.set_cons_succ]
                  refine wpAnyH_take (i := 4) (oi := { dst := some 89, op := Op.indexAddr 22 (Operand.tmp 87) (Operand.tmp 88), type := 0, pos := "ref.go:33", after := #[{ on := 2, ground := Ground.data }, { on := 3, ground := Ground.data }], guard := none }) (v := ?_) rfl (by kernel_rfl) (by kernel_rfl) (by kernel_rfl) (fun _ _ _ h => h) (Or.inl ⟨by rfl, ?_⟩) (by assumption) ?_
                  rotate_left
                  focus ((intro w hSw; (try dsimp only at hSw); go_simp) <;> (try with_reducible rfl))
                  try simp only [Act.put, List.setIfInBounds_toArray, List.set_cons_zero, List.set_cons_succ]
                  refine wpAnyH_take (i := 5) (oi := { dst := some 90, op := Op.load 3 (Operand.tmp 89), type := 3, pos := "ref.go:33", after := #[{ on := 4, ground := Ground.data }], guard := none }) (v := ?_) rfl (by kernel_rfl) (by kernel_rfl) (by kernel_rfl) (fun _ _ _ h => h) (Or.inl ⟨by rfl, ?_⟩) (by assumption) ?_
                  rotate_left
                  focus ((intro w hSw; (try dsimp only at hSw); go_simp) <;> (try with_reducible rfl))
                  try simp only [Act.put, List.setIfInBounds_toArray, List.set_cons_zero, List.set_cons_succ]
                  refine wpAnyH_take (i := 6) (oi := { dst := some 91, op := Op.binOp BinOp.neq 3 (Operand.tmp 86) (Operand.tmp 90) 3, type := 4, pos := "ref.go:33", after := #[{ on := 1, ground := Ground.data }, { on := 5, ground := Ground.data }], guard := none }) (v := ?_) rfl (by kernel_rfl) (by kernel_rfl) (by kernel_rfl) (fun _ _ _ h => h) (Or.inl ⟨by rfl, ?_⟩) (by assumption) ?_
                  rotate_left
                  focus ((intro w hSw; (try dsimp only at hSw); go_simp) <;> (try with_reducible rfl))
                  try simp only [Act.put, List.setIfInBounds_toArray, List.set_cons_zero, List.set_cons_succ]
                  refine wpAnyH_take (i := 7) (oi := { dst := some 92, op := Op.move (Operand.tmp 91), type := 4, pos := "ref.go:33", after := #[{ on := 6, ground := Ground.data }], guard := none }) (v := ?_) rfl (by kernel_rfl) (by kernel_rfl) (by kernel_rfl) (fun _ _ _ h => h) (Or.inl ⟨by rfl, ?_⟩) (by assumption) ?_
                  rotate_left
                  focus ((intro w hSw; (try dsimp only at hSw); go_simp) <;> (try with_reducible rfl))
                  try simp only [Act.put, List.setIfInBounds_toArray, List.set_cons_zero, List.set_cons_succ]
                  refine wpAnyH_take (i := 8) (oi := { dst := some 93, op := Op.move (Operand.tmp 3), type := 22, pos := "ref.go:33", after := #[{ on := 7, ground := Ground.guard }], guard := some (7, false) }) (v := ?_) rfl (by kernel_rfl) (by kernel_rfl) (by kernel_rfl) (fun _ _ _ h => h) (Or.inl ⟨by rfl, ?_⟩) (by assumption) ?_
                  rotate_left
                  focus ((intro w hSw; (try dsimp only at hSw); go_simp) <;> (try with_reducible rfl))
                  try simp only [Act.put, List.setIfInBounds_toArray, List.set_cons_zero, List.set_cons_succ]
                  refine wpAnyH_take (i := 9) (oi := { dst := some 94, op := Op.move (Operand.tmp 7), type := 3, pos := "ref.go:33", after := #[{ on := 7, ground := Ground.guard }], guard := some (7, false) }) (v := ?_) rfl (by kernel_rfl) (by kernel_rfl) (by kernel_rfl) (fun _ _ _ h => h) (Or.inl ⟨by rfl, ?_⟩) (by assumption) ?_
                  rotate_left
                  focus ((intro w hSw; (try dsimp only at hSw); go_simp) <;> (try with_reducible rfl))
                  try simp only [Act.put, List.setIfInBounds_toArray, List.set_cons_zero, List.set_cons_succ]
                  refine wpAnyH_take (i := 10) (oi := { dst := some 95, op := Op.indexAddr 22 (Operand.tmp 93) (Operand.tmp 94), type := 0, pos := "ref.go:33", after := #[{ on := 8, ground := Ground.data }, { on := 9, ground := Ground.data }, { on := 7, ground := Ground.guard }], guard := some (7, false) }) (v := ?_) rfl (by kernel_rfl) (by kernel_rfl) (by kernel_rfl) (fun _ _ _ h => h) (Or.inl ⟨by rfl, ?_⟩) (by assumption) ?_
                  rotate_left
                  focus ((intro w hSw; (try dsimp only at hSw); go_simp) <;> (try with_reducible rfl))
                  try simp only [Act.put, List.setIfInBounds_toArray, List.set_cons_zero, List.set_cons_succ]
                  refine wpAnyH_take (i := 11) (oi := { dst := some 96, op := Op.load 3 (Operand.tmp 95), type := 3, pos := "ref.go:33", after := #[{ on := 10, ground := Ground.data }, { on := 7, ground := Ground.guard }], guard := some (7, false) }) (v := ?_) rfl (by kernel_rfl) (by kernel_rfl) (by kernel_rfl) (fun _ _ _ h => h) (Or.inl ⟨by rfl, ?_⟩) (by assumption) ?_
                  rotate_left
                  focus ((intro w hSw; (try dsimp only at hSw); go_simp) <;> (try with_reducible rfl))
                  try simp only [Act.put, List.setIfInBounds_toArray, List.set_cons_zero, List.set_cons_succ]
                  refine wpAnyH_take (i := 12) (oi := { dst := some 97, op := Op.binOp BinOp.eql 3 (Operand.tmp 96) (Operand.const (Value.int IntKind.i64 0)) 3, type := 4, pos := "ref.go:33", after := #[{ on := 11, ground := Ground.data }, { on := 7, ground := Ground.guard }], guard := some (7, false) }) (v := ?_) rfl (by kernel_rfl) (by kernel_rfl) (by kernel_rfl) (fun _ _ _ h => h) (Or.inl ⟨by rfl, ?_⟩) (by assumption) ?_
                  rotate_left
                  focus ((intro w hSw; (try dsimp only at hSw); go_simp) <;> (try with_reducible rfl))
                  try simp only [Act.put, List.setIfInBounds_toArray, List.set_cons_zero, List.set_cons_succ]
                  refine wpAnyH_take (i := 13) (oi := { dst := some 98, op := Op.move (Operand.tmp 97), type := 4, pos := "ref.go:33", after := #[{ on := 12, ground := Ground.data }, { on := 7, ground := Ground.chain }, { on := 7, ground := Ground.guard }], guard := some (7, false) }) (v := ?_) rfl (by kernel_rfl) (by kernel_rfl) (by kernel_rfl) (fun _ _ _ h => h) (Or.inl ⟨by rfl, ?_⟩) (by assumption) ?_
                  rotate_left
                  focus ((intro w hSw; (try dsimp only at hSw); go_simp) <;> (try with_reducible rfl))
                  try simp only [Act.put, List.setIfInBounds_toArray, List.set_cons_zero, List.set_cons_succ]
                  refine wpAnyH_take (i := 14) (oi := { dst := some 99, op := Op.load 34 (Operand.tmp 8), type := 34, pos := "ref.go:33", after := #[{ on := 13, ground := Ground.guard }], guard := some (13, true) }) (v := undef) rfl (by kernel_rfl) (by kernel_rfl) (by kernel_rfl) (fun _ _ _ h => h) (Or.inr ⟨by rfl, rfl⟩) (by assumption) ?_
                  try simp only [Act.put, List.setIfInBounds_toArray, List.set_cons_zero, List.set_cons_succ]
                  refine wpAnyH_take (i := 15) (oi := { dst := some 100, op := Op.build 34 #[], type := 34, pos := "ref.go:33", after := #[{ on := 13, ground := Ground.guard }], guard := some (13, true) }) (v := undef) rfl (by kernel_rfl) (by kernel_rfl) (by kernel_rfl) (fun _ _ _ h => h) (Or.inr ⟨by rfl, rfl⟩) (by assumption) ?_
                  try simp only [Act.put, List.setIfInBounds_toArray, List.set_cons_zero, List.set_cons_succ]
                  refine wpAnyH_take (i := 16) (oi := { dst := some 101, op := Op.binOp BinOp.neq 34 (Operand.tmp 99) (Operand.tmp 100) 34, type := 4, pos := "ref.go:33", after := #[{ on := 14, ground := Ground.data }, { on := 15, ground := Ground.data }, { on := 13, ground := Ground.guard }], guard := some (13, true) }) (v := undef) rfl (by kernel_rfl) (by kernel_rfl) (by kernel_rfl) (fun _ _ _ h => h) (Or.inr ⟨by rfl, rfl⟩) (by assumption) ?_
                  try simp only [Act.put, List.setIfInBounds_toArray, List.set_cons_zero, List.set_cons_succ]
                  refine wpAnyH_take (i := 17) (oi := { dst := some 102, op := Op.pick (Operand.tmp 98) (Operand.tmp 101) (Operand.const (Value.bool false)), type := 4, pos := "ref.go:33", after := #[{ on := 13, ground := Ground.data }, { on := 16, ground := Ground.data }, { on := 7, ground := Ground.guard }], guard := some (7, false) }) (v := ?_) rfl (by kernel_rfl) (by kernel_rfl) (by kernel_rfl) (fun _ _ _ h => h) (Or.inl ⟨by rfl, ?_⟩) (by assumption) ?_
                  rotate_left
                  focus ((intro w hSw; (try dsimp only at hSw); go_simp) <;> (try with_reducible rfl))
                  try simp only [Act.put, List.setIfInBounds_toArray, List.set_cons_zero, List.set_cons_succ]
                  refine wpAnyH_take (i := 18) (oi := { dst := some 103, op := Op.pick (Operand.tmp 92) (Operand.const (Value.bool true)) (Operand.tmp 102), type := 4, pos := "ref.go:33", after := #[{ on := 7, ground := Ground.data }, { on := 17, ground := Ground.data }], guard := none }) (v := ?_) rfl (by kernel_rfl) (by kernel_rfl) (by kernel_rfl) (fun _ _ _ h => h) (Or.inl ⟨by rfl, ?_⟩) (by assumption) ?_
                  rotate_left
                  focus ((intro w hSw; (try dsimp only at hSw); go_simp) <;> (try with_reducible rfl))
                  try simp only [Act.put, List.setIfInBounds_toArray, List.set_cons_zero, List.set_cons_succ]
                  refine wpAnyH_take (i := 19) (oi := { dst := some 104, op := Op.move (Operand.tmp 103), type := 4, pos := "ref.go:33", after := #[{ on := 18, ground := Ground.data }, { on := 13, ground := Ground.chain }], guard := none }) (v := ?_) rfl (by kernel_rfl) (by kernel_rfl) (by kernel_rfl) (fun _ _ _ h => h) (Or.inl ⟨by rfl, ?_⟩) (by assumption) ?_
                  rotate_left
                  focus ((intro w hSw; (try dsimp only at hSw); go_simp) <;> (try with_reducible rfl))
                  try simp only [Act.put, List.setIfInBounds_toArray, List.set_cons_zero, List.set_cons_succ]
                  refine wpAnyH_take (i := 20) (oi := { dst := some 105, op := Op.move (Operand.tmp 3), type := 22, pos := "ref.go:33", after := #[{ on := 19, ground := Ground.guard }], guard := some (19, false) }) (v := ?_) rfl (by kernel_rfl) (by kernel_rfl) (by kernel_rfl) (fun _ _ _ h => h) (Or.inl ⟨by rfl, ?_⟩) (by assumption) ?_
                  rotate_left
                  focus ((intro w hSw; (try dsimp only at hSw); go_simp) <;> (try with_reducible rfl))
                  try simp only [Act.put, List.setIfInBounds_toArray, List.set_cons_zero, List.set_cons_succ]
                  refine wpAnyH_take (i := 21) (oi := { dst := some 106, op := Op.move (Operand.tmp 7), type := 3, pos := "ref.go:33", after := #[{ on := 19, ground := Ground.guard }], guard := some (19, false) }) (v := ?_) rfl (by kernel_rfl) (by kernel_rfl) (by kernel_rfl) (fun _ _ _ h => h) (Or.inl ⟨by rfl, ?_⟩) (by assumption) ?_
                  rotate_left
                  focus ((intro w hSw; (try dsimp only at hSw); go_simp) <;> (try with_reducible rfl))
                  try simp only [Act.put, List.setIfInBounds_toArray, List.set_cons_zero, List.set_cons_succ]
                  refine wpAnyH_take (i := 22) (oi := { dst := some 107, op := Op.indexAddr 22 (Operand.tmp 105) (Operand.tmp 106), type := 0, pos := "ref.go:33", after := #[{ on := 20, ground := Ground.data }, { on := 21, ground := Ground.data }, { on := 19, ground := Ground.guard }], guard := some (19, false) }) (v := ?_) rfl (by kernel_rfl) (by kernel_rfl) (by kernel_rfl) (fun _ _ _ h => h) (Or.inl ⟨by rfl, ?_⟩) (by assumption) ?_
                  rotate_left
                  focus ((intro w hSw; (try dsimp only at hSw); go_simp) <;> (try with_reducible rfl))
                  try simp only [Act.put, List.setIfInBounds_toArray, List.set_cons_zero, List.set_cons_succ]
                  refine wpAnyH_take (i := 23) (oi := { dst := some 108, op := Op.load 3 (Operand.tmp 107), type := 3, pos := "ref.go:33", after := #[{ on := 22, ground := Ground.data }, { on := 19, ground := Ground.guard }], guard := some (19, false) }) (v := ?_) rfl (by kernel_rfl) (by kernel_rfl) (by kernel_rfl) (fun _ _ _ h => h) (Or.inl ⟨by rfl, ?_⟩) (by assumption) ?_
                  rotate_left
                  focus ((intro w hSw; (try dsimp only at hSw); go_simp) <;> (try with_reducible rfl))
                  try simp only [Act.put, List.setIfInBounds_toArray, List.set_cons_zero, List.set_cons_succ]
                  refine wpAnyH_take (i := 24) (oi := { dst := some 109, op := Op.binOp BinOp.gtr 3 (Operand.tmp 108) (Operand.const (Value.int IntKind.i64 0)) 3, type := 4, pos := "ref.go:33", after := #[{ on := 23, ground := Ground.data }, { on := 19, ground := Ground.guard }], guard := some (19, false) }) (v := ?_) rfl (by kernel_rfl) (by kernel_rfl) (by kernel_rfl) (fun _ _ _ h => h) (Or.inl ⟨by rfl, ?_⟩) (by assumption) ?_
                  rotate_left
                  focus ((intro w hSw; (try dsimp only at hSw); go_simp) <;> (try with_reducible rfl))
                  try simp only [Act.put, List.setIfInBounds_toArray, List.set_cons_zero, List.set_cons_succ]
                  refine wpAnyH_take (i := 25) (oi := { dst := some 110, op := Op.move (Operand.tmp 109), type := 4, pos := "ref.go:33", after := #[{ on := 24, ground := Ground.data }, { on := 19, ground := Ground.chain }, { on := 19, ground := Ground.guard }], guard := some (19, false) }) (v := ?_) rfl (by kernel_rfl) (by kernel_rfl) (by kernel_rfl) (fun _ _ _ h => h) (Or.inl ⟨by rfl, ?_⟩) (by assumption) ?_
                  rotate_left
                  focus ((intro w hSw; (try dsimp only at hSw); go_simp) <;> (try with_reducible rfl))
                  try simp only [Act.put, List.setIfInBounds_toArray, List.set_cons_zero, List.set_cons_succ]
                  refine wpAnyH_take (i := 26) (oi := { dst := some 111, op := Op.load 34 (Operand.tmp 8), type := 34, pos := "ref.go:33", after := #[{ on := 25, ground := Ground.guard }], guard := some (25, true) }) (v := ?_) rfl (by kernel_rfl) (by kernel_rfl) (by kernel_rfl) (fun _ _ _ h => h) (Or.inl ⟨by rfl, ?_⟩) (by assumption) ?_
                  rotate_left
                  focus ((intro w hSw; (try dsimp only at hSw); go_simp) <;> (try with_reducible rfl))
                  try simp only [Act.put, List.setIfInBounds_toArray, List.set_cons_zero, List.set_cons_succ]
                  refine wpAnyH_ready (rs := [27]) (by kernel_rfl) (by simp) ?_
                  refine AllReadyH.cons (o := { dst := some 112, op := Op.call { callee := Callee.value (Operand.func 37), args := #[Operand.tmp 111], argTypes := #[34] }, type := 4, pos := "ref.go:33", after := #[{ on := 26, ground := Ground.data }, { on := 25, ground := Ground.chain }, { on := 25, ground := Ground.guard }], guard := some (25, true) }) rfl (fun K hK => ?_) AllReadyH.nil
                  go_simp
                  (first | (go_at_call 37; refine (HFX.out _).mono ?_; rintro e w3 ⟨rfl, hb⟩; have j0 := (hb.cell (p := ⟨A, 0, none⟩) hsA).trans k0; have j1 := (hb.cell (p := ⟨A, 1, none⟩) hsA).trans k1; have j2 := (hb.cell (p := ⟨A, 2, none⟩) hsA).trans k2; have j3 := (hb.cell (p := ⟨A, 3, none⟩) hsA).trans k3; have j4 := (hb.cell (p := ⟨A, 4, none⟩) hsA).trans k4; have jk := (hb.cell (p := ⟨w.heap.size + 1, k, none⟩) hsN).trans fk; have HBZ := Lib.hid (HBX.out.drew.trans (hb.mono HBX.out.drew.size)); have HBY := Lib.hid (HB2.out.drew.trans (hb.mono HB2.out.drew.size))))
                  go_wp2_with fail
                  refine hK.out _ _ (by (try dsimp only); go_keep) (fun hHeld => ?_)
                  clear hK K
                  try simp only [Act.put, List.setIfInBounds_toArray, List.set_cons_zero, List.set_cons_succ]
                  refine wpAnyH_take (i := 28) (oi := { dst := some 113, op := Op.unOp UnOp.not 4 (Operand.tmp 112), type := 4, pos := "ref.go:33", after := #[{ on := 27, ground := Ground.data }, { on := 25, ground := Ground.guard }], guard := some (25, true) }) (v := ?_) rfl (by kernel_rfl) (by kernel_rfl) (by kernel_rfl) (fun _ _ _ h => h) (Or.inl ⟨by rfl, ?_⟩) (by assumption) ?_
                  rotate_left
                  focus ((intro w hSw; (try dsimp only at hSw); go_simp) <;> (try with_reducible rfl))
                  try simp only [Act.put, List.setIfInBounds_toArray, List.set_cons_zero, List.set_cons_succ]
                  refine wpAnyH_take (i := 29) (oi := { dst := some 114, op := Op.pick (Operand.tmp 110) (Operand.tmp 113) (Operand.const (Value.bool false)), type := 4, pos := "ref.go:33", after := #[{ on := 25, ground := Ground.data }, { on := 28, ground := Ground.data }, { on := 19, ground := Ground.guard }], guard := some (19, false) }) (v := ?_) rfl (by kernel_rfl) (by kernel_rfl) (by kernel_rfl) (fun _ _ _ h => h) (Or.inl ⟨by rfl, ?_⟩) (by assumption) ?_
                  rotate_left
                  focus ((intro w hSw; (try dsimp only at hSw); go_simp) <;> (try with_reducible rfl))
                  try simp only [Act.put, List.setIfInBounds_toArray, List.set_cons_zero, List.set_cons_succ]
                  refine wpAnyH_take (i := 30) (oi := { dst := some 115, op := Op.pick (Operand.tmp 104) (Operand.const (Value.bool true)) (Operand.tmp 114), type := 4, pos := "ref.go:33", after := #[{ on := 19, ground := Ground.data }, { on := 29, ground := Ground.data }], guard := none }) (v := ?_) rfl (by kernel_rfl) (by kernel_rfl) (by kernel_rfl) (fun _ _ _ h => h) (Or.inl ⟨by rfl, ?_⟩) (by assumption) ?_
                  rotate_left
                  focus ((intro w hSw; (try dsimp only at hSw); go_simp) <;> (try with_reducible rfl))
                  try simp only [Act.put, List.setIfInBounds_toArray, List.set_cons_zero, List.set_cons_succ]
                  refine wpAnyH_done (by kernel_rfl) ?_ _
                  go_wp2_with fail
                  go_roundw
                  case rel => exact ⟨k + 1, by omega, by go_num, (by rw [hTN]; exact HV), HBY.out⟩
                  case measure => simp [intOf]; omega
            · have HV := Lib.hid (HIk.out (by unfold itemR; rw [decide_eq_false hrf]; rfl))
              have hrf1 : (rf != c) = true := by simpa using hrf
              refine wp_region_held_drew (S := fun w' => w'.cell? ⟨A, 0, none⟩ = some (.int .i64 fi) ∧ w'.cell? ⟨A, 1, none⟩ = some (.int .i64 fl) ∧ w'.cell? ⟨A, 2, none⟩ = some (.int .i64 f) ∧ w'.cell? ⟨A, 3, none⟩ = some (.int .i64 cu) ∧ w'.cell? ⟨A, 4, none⟩ = some (.int .i64 rf) ∧ w'.cell? ⟨w.heap.size + 1, k, none⟩ = some (.int .i64 c)) (by kernel_rfl) (by (try dsimp only); go_keep) (fun hHeld => ?_)
              refine wpAnyH_take (i := 0) (oi := { dst := some 85, op := Op.fieldAddr 34 (Operand.tmp 8) 4, type := 0, pos := "ref.go:33", after := #[], guard := none }) (v := ?_) rfl (by kernel_rfl) (by kernel_rfl) (by kernel_rfl) (fun _ _ _ h => h) (Or.inl ⟨by rfl, ?_⟩) (by assumption) ?_
              rotate_left
              focus ((intro w hSw; (try dsimp only at hSw); go_simp) <;> (try with_reducible rfl))
              try simp only [Act.put, List.setIfInBounds_toArray, List.set_cons_zero, List.set_cons_succ]
              refine wpAnyH_take (i := 1) (oi := { dst := some 86, op := Op.load 3 (Operand.tmp 85), type := 3, pos := "ref.go:33", after := #[{ on := 0, ground := Ground.data }], guard := none }) (v := ?_) rfl (by kernel_rfl) (by kernel_rfl) (by kernel_rfl) (fun _ _ _ h => h) (Or.inl ⟨by rfl, ?_⟩) (by assumption) ?_
              rotate_left
              focus ((intro w hSw; (try dsimp only at hSw); go_simp) <;> (try with_reducible rfl))
              try simp only [Act.put, List.setIfInBounds_toArray, List.set_cons_zero, List.set_cons_succ]
              refine wpAnyH_take (i := 2) (oi := { dst := some 87, op := Op.move (Operand.tmp 3), type := 22, pos := "ref.go:33", after := #[], guard := none }) (v := ?_) rfl (by kernel_rfl) (by kernel_rfl) (by kernel_rfl) (fun _ _ _ h => h) (Or.inl ⟨by rfl, ?_⟩) (by assumption) ?_
              rotate_left
              focus ((intro w hSw; (try dsimp only at hSw); go_simp) <;> (try with_reducible rfl))
              try simp only [Act.put, List.setIfInBounds_toArray, List.set_cons_zero, List.set_cons_succ]
              refine wpAnyH_take (i := 3) (oi := { dst := some 88, op := Op.move (Operand.tmp 7), type := 3, pos := "ref.go:33", after := #[], guard := none }) (v := ?_) rfl (by kernel_rfl) (by kernel_rfl) (by kernel_rfl) (fun _ _ _ h => h) (Or.inl ⟨by rfl, ?_⟩) (by assumption) ?_
              rotate_left
              focus ((intro w hSw; (try dsimp only at hSw); go_simp) <;> (try with_reducible rfl))
              try simp only [Act.put, List.setIfInBounds_toArray, List.set_cons_zero, List.set_cons_succ]
              refine wpAnyH_take (i := 4) (oi := { dst := some 89, op := Op.indexAddr 22 (Operand.tmp 87) (Operand.tmp 88), type := 0, pos := "ref.go:33", after := #[{ on := 2, ground := Ground.data }, { on := 3, ground := Ground.data }], guard := none }) (v := ?_) rfl (by kernel_rfl) (by kernel_rfl) (by kernel_rfl) (fun _ _ _ h => h) (Or.inl ⟨by rfl, ?_⟩) (by assumption) ?_
              rotate_left
              focus ((intro w hSw; (try dsimp only at hSw); go_simp) <;> (try with_reducible rfl))
              try simp only [Act.put, List.setIfInBounds_toArray, List.set_cons_zero, List.set_cons_succ]
              refine wpAnyH_take (i := 5) (oi := { dst := some 90, op := Op.load 3 (Operand.tmp 89), type := 3, pos := "ref.go:33", after := #[{ on := 4, ground := Ground.data }], guard := none }) (v := ?_) rfl (by kernel_rfl) (by kernel_rfl) (by kernel_rfl) (fun _ _ _ h => h) (Or.inl ⟨by rfl, ?_⟩) (by assumption) ?_
              rotate_left
              focus ((intro w hSw; (try dsimp only at hSw); go_simp) <;> (try with_reducible rfl))
              try simp only [Act.put, List.setIfInBounds_toArray, List.set_cons_zero, List.set_cons_succ]
              refine wpAnyH_take (i := 6) (oi := { dst := some 91, op := Op.binOp BinOp.neq 3 (Operand.tmp 86) (Operand.tmp 90) 3, type := 4, pos := "ref.go:33", after := #[{ on := 1, ground := Ground.data }, { on := 5, ground := Ground.data }], guard := none }) (v := ?_) rfl (by kernel_rfl) (by kernel_rfl) (by kernel_rfl) (fun _ _ _ h => h) (Or.inl ⟨by rfl, ?_⟩) (by assumption) ?_
              rotate_left
              focus ((intro w hSw; (try dsimp only at hSw); go_simp) <;> (try with_reducible rfl))
              try simp only [Act.put, List.setIfInBounds_toArray, List.set_cons_zero, List.set_cons_succ]
              refine wpAnyH_take (i := 7) (oi := { dst := some 92, op := Op.move (Operand.tmp 91), type := 4, pos := "ref.go:33", after := #[{ on := 6, ground := Ground.data }], guard := none }) (v := ?_) rfl (by kernel_rfl) (by kernel_rfl) (by kernel_rfl) (fun _ _ _ h => h) (Or.inl ⟨by rfl, ?_⟩) (by assumption) ?_
              rotate_left
              focus ((intro w hSw; (try dsimp only at hSw); go_simp) <;> (try with_reducible rfl))
              try simp only [Act.put, List.setIfInBounds_toArray, List.set_cons_zero, List.set_cons_succ]
              refine wpAnyH_take (i := 8) (oi := { dst := some 93, op := Op.move (Operand.tmp 3), type := 22, pos := "ref.go:33", after := #[{ on := 7, ground := Ground.guard }], guard := some (7, false) }) (v := undef) rfl (by kernel_rfl) (by kernel_rfl) (by kernel_rfl) (fun _ _ _ h => h) (Or.inr ⟨by rfl, rfl⟩) (by assumption) ?_
              try simp only [Act.put, List.setIfInBounds_toArray, List.set_cons_zero, List.set_cons_succ]
              refine wpAnyH_take (i := 9) (oi := { dst := some 94, op := Op.move (Operand.tmp 7), type := 3, pos := "ref.go:33", after := #[{ on := 7, ground := Ground.guard }], guard := some (7, false) }) (v := undef) rfl (by kernel_rfl) (by kernel_rfl) (by kernel_rfl) (fun _ _ _ h => h) (Or.inr ⟨by rfl, rfl⟩) (by assumption) ?_
              try simp only [Act.put, List.setIfInBounds_toArray, List.set_cons_zero, List.set_cons_succ]
              refine wpAnyH_take (i := 10) (oi := { dst := some 95, op := Op.indexAddr 22 (Operand.tmp 93) (Operand.tmp 94), type := 0, pos := "ref.go:33", after := #[{ on := 8, ground := Ground.data }, { on := 9, ground := Ground.data }, { on := 7, ground := Ground.guard }], guard := some (7, false) }) (v := undef) rfl (by kernel_rfl) (by kernel_rfl) (by kernel_rfl) (fun _ _ _ h => h) (Or.inr ⟨by rfl, rfl⟩) (by assumption) ?_
              try simp only [Act.put, List.setIfInBounds_toArray, List.set_cons_zero, List.set_cons_succ]
              refine wpAnyH_take (i := 11) (oi := { dst := some 96, op := Op.load 3 (Operand.tmp 95), type := 3, pos := "ref.go:33", after := #[{ on := 10, ground := Ground.data }, { on := 7, ground := Ground.guard }], guard := some (7, false) }) (v := undef) rfl (by kernel_rfl) (by kernel_rfl) (by kernel_rfl) (fun _ _ _ h => h) (Or.inr ⟨by rfl, rfl⟩) (by assumption) ?_
              try simp only [Act.put, List.setIfInBounds_toArray, List.set_cons_zero, List.set_cons_succ]
              refine wpAnyH_take (i := 12) (oi := { dst := some 97, op := Op.binOp BinOp.eql 3 (Operand.tmp 96) (Operand.const (Value.int IntKind.i64 0)) 3, type := 4, pos := "ref.go:33", after := #[{ on := 11, ground := Ground.data }, { on := 7, ground := Ground.guard }], guard := some (7, false) }) (v := undef) rfl (by kernel_rfl) (by kernel_rfl) (by kernel_rfl) (fun _ _ _ h => h) (Or.inr ⟨by rfl, rfl⟩) (by assumption) ?_
              try simp only [Act.put, List.setIfInBounds_toArray, List.set_cons_zero, List.set_cons_succ]
              refine wpAnyH_take (i := 13) (oi := { dst := some 98, op := Op.move (Operand.tmp 97), type := 4, pos := "ref.go:33", after := #[{ on := 12, ground := Ground.data }, { on := 7, ground := Ground.chain }, { on := 7, ground := Ground.guard }], guard := some (7, false) }) (v := undef) rfl (by kernel_rfl) (by kernel_rfl) (by kernel_rfl) (fun _ _ _ h => h) (Or.inr ⟨by rfl, rfl⟩) (by assumption) ?_
              try simp only [Act.put, List.setIfInBounds_toArray, List.set_cons_zero, List.set_cons_succ]
              refine wpAnyH_take (i := 14) (oi := { dst := some 99, op := Op.load 34 (Operand.tmp 8), type := 34, pos := "ref.go:33", after := #[{ on := 13, ground := Ground.guard }], guard := some (13, true) }) (v := undef) rfl (by kernel_rfl) (by kernel_rfl) (by kernel_rfl) (fun _ _ _ h => h) (Or.inr ⟨by rfl, rfl⟩) (by assumption) ?_
              try simp only [Act.put, List.setIfInBounds_toArray, List.set_cons_zero, List.set_cons_succ]
              refine wpAnyH_take (i := 15) (oi := { dst := some 100, op := Op.build 34 #[], type := 34, pos := "ref.go:33", after := #[{ on := 13, ground := Ground.guard }], guard := some (13, true) }) (v := undef) rfl (by kernel_rfl) (by kernel_rfl) (by kernel_rfl) (fun _ _ _ h => h) (Or.inr ⟨by rfl, rfl⟩) (by assumption) ?_
              try simp only [Act.put, List.setIfInBounds_toArray, List.set_cons_zero, List.set_cons_succ]
              refine wpAnyH_take (i := 16) (oi := { dst := some 101, op := Op.binOp BinOp.neq 34 (Operand.tmp 99) (Operand.tmp 100) 34, type := 4, pos := "ref.go:33", after := #[{ on := 14, ground := Ground.data }, { on := 15, ground := Ground.data }, { on := 13, ground := Ground.guard }], guard := some (13, true) }) (v := undef) rfl (by kernel_rfl) (by kernel_rfl) (by kernel_rfl) (fun _ _ _ h => h) (Or.inr ⟨by rfl, rfl⟩) (by assumption) ?_
              try simp only [Act.put, List.setIfInBounds_toArray, List.set_cons_zero, List.set_cons_succ]
              refine wpAnyH_take (i := 17) (oi := { dst := some 102, op := Op.pick (Operand.tmp 98) (Operand.tmp 101) (Operand.const (Value.bool false)), type := 4, pos := "ref.go:33", after := #[{ on := 13, ground := Ground.data }, { on := 16, ground := Ground.data }, { on := 7, ground := Ground.guard }], guard := some (7, false) }) (v := undef) rfl (by kernel_rfl) (by kernel_rfl) (by kernel_rfl) (fun _ _ _ h => h) (Or.inr ⟨by rfl, rfl⟩) (by assumption) ?_
              try simp only [Act.put, List.setIfInBounds_toArray, List.set_cons_zero, List.set_cons_succ]
              refine wpAnyH_take (i := 18) (oi := { dst := some 103, op := Op.pick (Operand.tmp 92) (Operand.const (Value.bool true)) (Operand.tmp 102), type := 4, pos := "ref.go:33", after := #[{ on := 7, ground := Ground.data }, { on := 17, ground := Ground.data }], guard := none }) (v := ?_) rfl (by kernel_rfl) (by kernel_rfl) (by kernel_rfl) (fun _ _ _ h => h) (Or.inl ⟨by rfl, ?_⟩) (by assumption) ?_
              rotate_left
              focus ((intro w hSw; (try dsimp only at hSw); go_simp) <;> (try with_reducible rfl))
              try simp only [Act.put, List.setIfInBounds_toArray, List.set_cons_zero, List.set_cons_succ]
              refine wpAnyH_take (i := 19) (oi := { dst := some 104, op := Op.move (Operand.tmp 103), type := 4, pos := "ref.go:33", after := #[{ on := 18, ground := Ground.data }, { on := 13, ground := Ground.chain }], guard := none }) (v := ?_) rfl (by kernel_rfl) (by kernel_rfl) (by kernel_rfl) (fun _ _ _ h => h) (Or.inl ⟨by rfl, ?_⟩) (by assumption) ?_
              rotate_left
              focus ((intro w hSw; (try dsimp only at hSw); go_simp) <;> (try with_reducible rfl))
              try simp only [Act.put, List.setIfInBounds_toArray, List.set_cons_zero, List.set_cons_succ]
              refine wpAnyH_take (i := 20) (oi := { dst := some 105, op := Op.move (Operand.tmp 3), type := 22, pos := "ref.go:33", after := #[{ on := 19, ground := Ground.guard }], guard := some (19, false) }) (v := undef) rfl (by kernel_rfl) (by kernel_rfl) (by kernel_rfl) (fun _ _ _ h => h) (Or.inr ⟨by rfl, rfl⟩) (by assumption) ?_
              try simp only [Act.put, List.setIfInBounds_toArray, List.set_cons_zero, List.set_cons_succ]
              refine wpAnyH_take (i := 21) (oi := { dst := some 106, op := Op.move (Operand.tmp 7), type := 3, pos := "ref.go:33", after := #[{ on := 19, ground := Ground.guard }], guard := some (19, false) }) (v := undef) rfl (by kernel_rfl) (by kernel_rfl) (by kernel_rfl) (fun _ _ _ h => h) (Or.inr ⟨by rfl, rfl⟩) (by assumption) ?_
              try simp only [Act.put, List.setIfInBounds_toArray, List.set_cons_zero, List.set_cons_succ]
              refine wpAnyH_take (i := 22) (oi := { dst := some 107, op := Op.indexAddr 22 (Operand.tmp 105) (Operand.tmp 106), type := 0, pos := "ref.go:33", after := #[{ on := 20, ground := Ground.data }, { on := 21, ground := Ground.data }, { on := 19, ground := Ground.guard }], guard := some (19, false) }) (v := undef) rfl (by kernel_rfl) (by kernel_rfl) (by kernel_rfl) (fun _ _ _ h => h) (Or.inr ⟨by rfl, rfl⟩) (by assumption) ?_
              try simp only [Act.put, List.setIfInBounds_toArray, List.set_cons_zero, List.set_cons_succ]
              refine wpAnyH_take (i := 23) (oi := { dst := some 108, op := Op.load 3 (Operand.tmp 107), type := 3, pos := "ref.go:33", after := #[{ on := 22, ground := Ground.data }, { on := 19, ground := Ground.guard }], guard := some (19, false) }) (v := undef) rfl (by kernel_rfl) (by kernel_rfl) (by kernel_rfl) (fun _ _ _ h => h) (Or.inr ⟨by rfl, rfl⟩) (by assumption) ?_
              try simp only [Act.put, List.setIfInBounds_toArray, List.set_cons_zero, List.set_cons_succ]
              refine wpAnyH_take (i := 24) (oi := { dst := some 109, op := Op.binOp BinOp.gtr 3 (Operand.tmp 108) (Operand.const (Value.int IntKind.i64 0)) 3, type := 4, pos := "ref.go:33", after := #[{ on := 23, ground := Ground.data }, { on := 19, ground := Ground.guard }], guard := some (19, false) }) (v := undef) rfl (by kernel_rfl) (by kernel_rfl) (by kernel_rfl) (fun _ _ _ h => h) (Or.inr ⟨by rfl, rfl⟩) (by assumption) ?_
              try simp only [Act.put, List.setIfInBounds_toArray, List.set_cons_zero, List.set_cons_succ]
              refine wpAnyH_take (i := 25) (oi := { dst := some 110, op := Op.move (Operand.tmp 109), type := 4, pos := "ref.go:33", after := #[{ on := 24, ground := Ground.data }, { on := 19, ground := Ground.chain }, { on := 19, ground := Ground.guard }], guard := some (19, false) }) (v := undef) rfl (by kernel_rfl) (by kernel_rfl) (by kernel_rfl) (fun _ _ _ h => h) (Or.inr ⟨by rfl, rfl⟩) (by assumption) ?_
              try simp only [Act.put, List.setIfInBounds_toArray, List.set_cons_zero, List.set_cons_succ]
              refine wpAnyH_take (i := 26) (oi := { dst := some 111, op := Op.load 34 (Operand.tmp 8), type := 34, pos := "ref.go:33", after := #[{ on := 25, ground := Ground.guard }], guard := some (25, true) }) (v := undef) rfl (by kernel_rfl) (by kernel_rfl) (by kernel_rfl) (fun _ _ _ h => h) (Or.inr ⟨by rfl, rfl⟩) (by assumption) ?_
              try simp only [Act.put, List.setIfInBounds_toArray, List.set_cons_zero, List.set_cons_succ]
              refine wpAnyH_take (i := 27) (oi := { dst := some 112, op := Op.call { callee := Callee.value (Operand.func 37), args := #[Operand.tmp 111], argTypes := #[34] }, type := 4, pos := "ref.go:33", after := #[{ on := 26, ground := Ground.data }, { on := 25, ground := Ground.chain }, { on := 25, ground := Ground.guard }], guard := some (25, true) }) (v := undef) rfl (by kernel_rfl) (by kernel_rfl) (by kernel_rfl) (fun _ _ _ h => h) (Or.inr ⟨by rfl, rfl⟩) (by assumption) ?_
              try simp only [Act.put, List.setIfInBounds_toArray, List.set_cons_zero, List.set_cons_succ]
              refine wpAnyH_take (i := 28) (oi := { dst := some 113, op := Op.unOp UnOp.not 4 (Operand.tmp 112), type := 4, pos := "ref.go:33", after := #[{ on := 27, ground := Ground.data }, { on := 25, ground := Ground.guard }], guard := some (25, true) }) (v := undef) rfl (by kernel_rfl) (by kernel_rfl) (by kernel_rfl) (fun _ _ _ h => h) (Or.inr ⟨by rfl, rfl⟩) (by assumption) ?_
              try simp only [Act.put, List.setIfInBounds_toArray, List.set_cons_zero, List.set_cons_succ]
              refine wpAnyH_take (i := 29) (oi := { dst := some 114, op := Op.pick (Operand.tmp 110) (Operand.tmp 113) (Operand.const (Value.bool false)), type := 4, pos := "ref.go:33", after := #[{ on := 25, ground := Ground.data }, { on := 28, ground := Ground.data }, { on := 19, ground := Ground.guard }], guard := some (19, false) }) (v := undef) rfl (by kernel_rfl) (by kernel_rfl) (by kernel_rfl) (fun _ _ _ h => h) (Or.inr ⟨by rfl, rfl⟩) (by assumption) ?_
              try simp only [Act.put, List.setIfInBounds_toArray, List.set_cons_zero, List.set_cons_succ]
              refine wpAnyH_take (i := 30) (oi := { dst := some 115, op := Op.pick (Operand.tmp 104) (Operand.const (Value.bool true)) (Operand.tmp 114), type := 4, pos := "ref.go:33", after := #[{ on := 19, ground := Ground.data }, { on := 29, ground := Ground.data }], guard := none }) (v := ?_) rfl (by kernel_rfl) (by kernel_rfl) (by kernel_rfl) (fun _ _ _ h => h) (Or.inl ⟨by rfl, ?_⟩) (by assumption) ?_
              rotate_left
              focus ((intro w hSw; (try dsimp only at hSw); go_simp) <;> (try with_reducible rfl))
              try simp only [Act.put, List.setIfInBounds_toArray, List.set_cons_zero, List.set_cons_succ]
              refine wpAnyH_done (by kernel_rfl) ?_ _
              go_wp2_with fail
              go_ret
              exact RetW.mk (by rw [HV.out]; try rfl) HBX.out.drew
          · obtain rfl : k = o.length := by omega
            obtain ⟨f0, fk⟩ := HF.out _ HW.out
            by_cases ho0 : o.length = 0
            · have HV := Lib.hid (HFI.out (by first | rfl | trivial) HT.out (Or.inl ho0))
              have h0' : (o.length : Int) = 0 := by omega
              clear fk
              go_wp2_with fail
              go_ret
              exact RetW.mk (by rw [HV.out]; try simp [h0']) HBW.out
            · replace fk := fk (o.length - 1) (by omega)
              obtain ⟨cb0, _⟩ := HB.out (by first | rfl | trivial) (o.length - 1) (by omega)
              have HFI2 : Hid (0 < C.getD (o.length - 1) 0 → cv = true) := fun hh => HFI.out (by first | rfl | trivial) HT.out (Or.inr hh)
              have HFF2 : Hid (C.getD (o.length - 1) 0 = 0 → cv = false) := fun hh => HFF.out ho0 hh
              clear HFI HFF HI HF HT HB
              generalize C.getD (o.length - 1) 0 = c at *
              have h0' : (o.length : Int) ≠ 0 := by omega
              by_cases hc0 : c = 0
              · subst hc0
                have HV := Lib.hid (HFF2.out rfl)
                go_wp2_with fail
                go_ret
                exact RetW.mk (by rw [HV.out]; simp; intro e; exact ho0 (by rw [e]; rfl)) HBW.out
              · have hcp : 0 < c := by omega
                have HV := Lib.hid (HFI2.out hcp)
                go_wp2_with fail
                go_ret
                exact RetW.mk (by rw [HV.out]; try simp [hcp]) HBW.out
  · have HV := Lib.hid (HNL.out hl)
    have HN := Lib.hid hl
    clear hl
    go_enter Try.func24, Try.ntmps24
    go_wp2_with fail
    all_goals first | (exfalso; have := HN.out; omega) | (go_ret; exact RetW.mk (by rw [HV.out]; try rfl) ((Below.refl _ w).alloc (Nat.le_refl _) _))
end Go.Proofs.Ytflcbefomjlgmaa
