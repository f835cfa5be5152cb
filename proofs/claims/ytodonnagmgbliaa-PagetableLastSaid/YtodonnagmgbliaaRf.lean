/- Cutting entries out of a list, as the document has it. -/
import Derived.Test.YtodonnagmgbliaaWo
namespace Go.Proofs.Ytodonnagmgbliaa
open Go.ChangeShapes Go.WideShapes Go.ChangeAt Go.RowKit

def ofL (l : List Ar) (fr : Int) : List Ar := if checkV l = true then l.filter (frB fr) else []

set_option maxHeartbeats 4000000 in
theorem dropR_any (fr : Int) (B : Nat) (b : Option Addr) (l : List Ar) (cap : Nat) (w : World) (h : ARow B b cap l w) (hl : l.length ≤ 100) :
    Calls Try.prog 24 #[.slice b l.length cap, .int .i64 fr] w fun e w' => ∃ b' c', e = .returned (.slice b' (cutL l (frB fr)).length c') ∧ ARow 0 b' c' (cutL l (frB fr)) w' ∧ Below w.heap.size w w' := by
  have HA : Hid (∀ W, Below w.heap.size w W → ∀ j, j < l.length → ∃ g, b = some ⟨g, 0, none⟩ ∧ g < w.heap.size ∧ (l.length : Int) ≤ cap ∧ Cel W g (j * 5) (l.getD j Ar.zero)) := by
    intro W hb j hj
    obtain ⟨g, h1, h2, h3, h4, h5, h6⟩ := h.at (by omega)
    exact ⟨g, h1, h3, by omega, (h6 j hj).eq (fun i => hb.cell (p := ⟨g, i, none⟩) h3)⟩
  have HCK := Lib.hid (checkR_any B b l cap w h hl)
  have HRW : Hid (∀ W, Below w.heap.size w W → ARow 0 b cap l W) := fun W hb => (h.below hb).mono (Nat.zero_le _)
  have HV1 : Hid (checkV l = true → cutL l (frB fr) = l.filter (fun x => !frB fr x)) := fun hc => by unfold cutL; rw [if_pos hc]
  have HV2 : Hid (checkV l = false → cutL l (frB fr) = l) := fun hc => by unfold cutL; rw [if_neg (by rw [hc]; simp)]
  generalize cutL l (frB fr) = V at *
  clear h
  obtain ⟨i0, hi, hz0, hz1, hz2⟩ := info_parts area_info
  go_enter Try.func24, Try.ntmps24
  go_wp2_with fail
  refine HCK.out.mono ?_; rintro e w1 ⟨rfl, hb⟩
  have HB := Lib.hid hb
  clear hb HCK
  cases hcv : checkV l with
  | false =>
    have HV := Lib.hid (HV2.out hcv)
    have HRR := Lib.hid (HRW.out w1 HB.out)
    clear HV1 HV2 hcv
    go_wp2_with fail
    go_ret
    exact ⟨b, cap, by rw [HV.out]; rfl, by rw [HV.out]; exact HRR.out, HB.out⟩
  | true =>
    have HV := Lib.hid (HV1.out hcv)
    clear HV1 HV2 hcv HRW
    go_wp2_with fail
    go_loopw [5, 6] (fun v5 v6 wr => ∃ k : Nat, k ≤ l.length ∧ v6 = .int .i64 k ∧ Hid (Below w.heap.size w wr) ∧ Hid (wr.ownsRow w.heap.size 30 5 v5 ((l.take k).filter (fun x => !frB fr x)).length (flat ((l.take k).filter (fun x => !frB fr x))))) (fun _ v6 _ => 200 - (intOf v6).toNat)
    case atStart => exact ⟨0, Nat.zero_le _, rfl, HB, World.ownsRow_nil _ _ _ _⟩
    case round =>
      clear HB
      obtain ⟨k, hk, rfl, HB, HO⟩ := hrel
      by_cases hlt : k < l.length
      · have hlt' : (k : Int) < (l.length : Int) := by omega
        obtain ⟨g, rfl, hg, hcap, hcel⟩ := HA.out _ HB.out k hlt
        have hL : ((l.take k).filter (fun x => !frB fr x)).length ≤ 100 := by
          have h1 := List.length_filter_le (fun x => !frB fr x) (l.take k)
          rw [List.length_take] at h1
          omega
        have HST : Hid ((fun x => !frB fr x) (l.getD k Ar.zero) = true → (l.take (k + 1)).filter (fun x => !frB fr x) = (l.take k).filter (fun x => !frB fr x) ++ [l.getD k Ar.zero]) := fun h => by
          rw [getD_get hlt] at h ⊢
          rw [take_succ_get hlt, List.filter_append, List.filter_cons, if_pos h]
          simp
        have HSF : Hid ((fun x => !frB fr x) (l.getD k Ar.zero) = false → (l.take (k + 1)).filter (fun x => !frB fr x) = (l.take k).filter (fun x => !frB fr x)) := fun h => by
          rw [getD_get hlt] at h
          rw [take_succ_get hlt, List.filter_append, List.filter_cons, if_neg (fun hh => by have := h.symm.trans hh; cases this)]
          simp
        clear HA HV
        generalize (l.take k).filter (fun x => !frB fr x) = L at *
        generalize l.getD k Ar.zero = e at *
        obtain ⟨s, c, f, p, q⟩ := e
        obtain ⟨k0, k1, k2, k3, k4⟩ := hcel
        simp only at k0 k1 k2 k3 k4
        by_cases hf : f = fr
        · subst hf
          have HS2 := Lib.hid (HSF.out (by exact by simp [frB]))
          rw [← HS2.out] at HO
          go_wp2_with fail
          go_roundw
          case rel => exact ⟨k + 1, by omega, by go_num, HB, HO⟩
          case measure => simp [intOf]; omega
        · have hf2 : (f == fr) = false := by simpa using hf
          have HS2 := Lib.hid (HST.out (by exact by simp [frB, hf]))
          go_wp2_with (at_builtin; refine wpList_append_own _ rfl _ _ 26 rfl w.heap.size 30 i0 _ 5 32 Try.underlying26 hi hz0 hz1 hz2 rfl (by decide) _ _ _ rfl (HO.out.alloc _) ⟨wr.heap.size, 0, none⟩ 1 1 [.int .i64 s, .int .i64 c, .int .i64 f, .bool p, .bool q] rfl rfl ?c1 ?c2 ?c3 ?c4 ?c5 ?_)
          try (case c1 => (intro j u hj; rw [Addr.add_lit]; exact cells_at (Blk.new wr s c f p q) j u hj))
          case c2 => first | exact ⟨rfl, rfl, rfl, rfl, rfl⟩ | (intro u hu; simp at hu; rcases hu with rfl | rfl | rfl | rfl | rfl <;> rfl)
          case c3 => unfold maxLen; omega
          case c4 => omega
          case c5 => have := HB.out.size; simp; omega
          intro vc wc hown' hgrow _
          have hbb : Below w.heap.size wr wc := ((Below.refl w.heap.size wr).alloc HB.out.size (Obj.cells #[Value.int IntKind.i64 s, Value.int IntKind.i64 c, Value.int IntKind.i64 f, Value.bool p, Value.bool q] 30)).grown hgrow (by have := HB.out.size; simp; omega) (fun x hx => (HO.out.lt x hx).1)
          replace HB := Lib.hid (HB.out.trans hbb)
          replace HO : Hid (wc.ownsRow w.heap.size 30 5 vc (L ++ [(Ar.mk s c f p q)]).length (flat (L ++ [(Ar.mk s c f p q)]))) := by
            unfold Hid
            rw [flat_append, flat_one]
            simp only [List.length_append, List.length_singleton]
            simpa [Ar.cells] using hown'
          clear hgrow hown' hbb
          rw [← HS2.out] at HO
          go_wp2_with fail
          go_roundw
          case rel => exact ⟨k + 1, by omega, by go_num, HB, HO⟩
          case measure => simp [intOf]; omega
      · obtain rfl : k = l.length := by omega
        rw [List.take_length] at HO
        obtain ⟨b2, c2, rfl, _, hr2⟩ := ARow.ofOwn HO.out
        have HR2 := Lib.hid hr2
        clear hr2
        go_wp2_with fail
        go_ret
        exact ⟨b2, c2, by rw [HV.out]; rfl, by rw [HV.out]; exact HR2.out.mono (Nat.zero_le _), HB.out⟩

set_option maxHeartbeats 4000000 in
theorem ofR_any (fr : Int) (B : Nat) (b : Option Addr) (l : List Ar) (cap : Nat) (w : World) (h : ARow B b cap l w) (hl : l.length ≤ 100) :
    Calls Try.prog 22 #[.slice b l.length cap, .int .i64 fr] w fun e w' => ∃ b' c', e = .returned (.slice b' (ofL l fr).length c') ∧ ARow 0 b' c' (ofL l fr) w' ∧ Below w.heap.size w w' := by
  have HA : Hid (∀ W, Below w.heap.size w W → ∀ j, j < l.length → ∃ g, b = some ⟨g, 0, none⟩ ∧ g < w.heap.size ∧ (l.length : Int) ≤ cap ∧ Cel W g (j * 5) (l.getD j Ar.zero)) := by
    intro W hb j hj
    obtain ⟨g, h1, h2, h3, h4, h5, h6⟩ := h.at (by omega)
    exact ⟨g, h1, h3, by omega, (h6 j hj).eq (fun i => hb.cell (p := ⟨g, i, none⟩) h3)⟩
  have HCK := Lib.hid (checkR_any B b l cap w h hl)
  have HRW : Hid (∀ W, Below w.heap.size w W → ARow 0 b cap l W) := fun W hb => (h.below hb).mono (Nat.zero_le _)
  have HV1 : Hid (checkV l = true → ofL l fr = l.filter (frB fr)) := fun hc => by unfold ofL; rw [if_pos hc]
  have HV2 : Hid (checkV l = false → ofL l fr = []) := fun hc => by unfold ofL; rw [if_neg (by rw [hc]; simp)]
  generalize ofL l fr = V at *
  clear h
  obtain ⟨i0, hi, hz0, hz1, hz2⟩ := info_parts area_info
  go_enter Try.func22, Try.ntmps22
  go_wp2_with fail
  refine HCK.out.mono ?_; rintro e w1 ⟨rfl, hb⟩
  have HB := Lib.hid hb
  clear hb HCK
  cases hcv : checkV l with
  | false =>
    have HV := Lib.hid (HV2.out hcv)
    have HRR := Lib.hid (HRW.out w1 HB.out)
    clear HV1 HV2 hcv
    go_wp2_with fail
    go_ret
    exact ⟨none, 0, by rw [HV.out]; rfl, by rw [HV.out]; exact Or.inl ⟨rfl, rfl, rfl⟩, HB.out⟩
  | true =>
    have HV := Lib.hid (HV1.out hcv)
    clear HV1 HV2 hcv HRW
    go_wp2_with fail
    go_loopw [5, 6] (fun v5 v6 wr => ∃ k : Nat, k ≤ l.length ∧ v6 = .int .i64 k ∧ Hid (Below w.heap.size w wr) ∧ Hid (wr.ownsRow w.heap.size 30 5 v5 ((l.take k).filter (frB fr)).length (flat ((l.take k).filter (frB fr))))) (fun _ v6 _ => 200 - (intOf v6).toNat)
    case atStart => exact ⟨0, Nat.zero_le _, rfl, HB, World.ownsRow_nil _ _ _ _⟩
    case round =>
      clear HB
      obtain ⟨k, hk, rfl, HB, HO⟩ := hrel
      by_cases hlt : k < l.length
      · have hlt' : (k : Int) < (l.length : Int) := by omega
        obtain ⟨g, rfl, hg, hcap, hcel⟩ := HA.out _ HB.out k hlt
        have hL : ((l.take k).filter (frB fr)).length ≤ 100 := by
          have h1 := List.length_filter_le (frB fr) (l.take k)
          rw [List.length_take] at h1
          omega
        have HST : Hid ((frB fr) (l.getD k Ar.zero) = true → (l.take (k + 1)).filter (frB fr) = (l.take k).filter (frB fr) ++ [l.getD k Ar.zero]) := fun h => by
          rw [getD_get hlt] at h ⊢
          rw [take_succ_get hlt, List.filter_append, List.filter_cons, if_pos h]
          simp
        have HSF : Hid ((frB fr) (l.getD k Ar.zero) = false → (l.take (k + 1)).filter (frB fr) = (l.take k).filter (frB fr)) := fun h => by
          rw [getD_get hlt] at h
          rw [take_succ_get hlt, List.filter_append, List.filter_cons, if_neg (fun hh => by have := h.symm.trans hh; cases this)]
          simp
        clear HA HV
        generalize (l.take k).filter (frB fr) = L at *
        generalize l.getD k Ar.zero = e at *
        obtain ⟨s, c, f, p, q⟩ := e
        obtain ⟨k0, k1, k2, k3, k4⟩ := hcel
        simp only at k0 k1 k2 k3 k4
        by_cases hf : f = fr
        · subst hf
          have HS2 := Lib.hid (HST.out (by exact by simp [frB]))
          go_wp2_with (at_builtin; refine wpList_append_own _ rfl _ _ 26 rfl w.heap.size 30 i0 _ 5 32 Try.underlying26 hi hz0 hz1 hz2 rfl (by decide) _ _ _ rfl (HO.out.alloc _) ⟨wr.heap.size, 0, none⟩ 1 1 [.int .i64 s, .int .i64 c, .int .i64 f, .bool p, .bool q] rfl rfl ?c1 ?c2 ?c3 ?c4 ?c5 ?_)
          try (case c1 => (intro j u hj; rw [Addr.add_lit]; exact cells_at (Blk.new wr s c f p q) j u hj))
          case c2 => first | exact ⟨rfl, rfl, rfl, rfl, rfl⟩ | (intro u hu; simp at hu; rcases hu with rfl | rfl | rfl | rfl | rfl <;> rfl)
          case c3 => unfold maxLen; omega
          case c4 => omega
          case c5 => have := HB.out.size; simp; omega
          intro vc wc hown' hgrow _
          have hbb : Below w.heap.size wr wc := ((Below.refl w.heap.size wr).alloc HB.out.size (Obj.cells #[Value.int IntKind.i64 s, Value.int IntKind.i64 c, Value.int IntKind.i64 f, Value.bool p, Value.bool q] 30)).grown hgrow (by have := HB.out.size; simp; omega) (fun x hx => (HO.out.lt x hx).1)
          replace HB := Lib.hid (HB.out.trans hbb)
          replace HO : Hid (wc.ownsRow w.heap.size 30 5 vc (L ++ [(Ar.mk s c f p q)]).length (flat (L ++ [(Ar.mk s c f p q)]))) := by
            unfold Hid
            rw [flat_append, flat_one]
            simp only [List.length_append, List.length_singleton]
            simpa [Ar.cells] using hown'
          clear hgrow hown' hbb
          rw [← HS2.out] at HO
          go_wp2_with fail
          go_roundw
          case rel => exact ⟨k + 1, by omega, by go_num, HB, HO⟩
          case measure => simp [intOf]; omega
        · have hf2 : (f == fr) = false := by simpa using hf
          have HS2 := Lib.hid (HSF.out (by exact by simp [frB, hf]))
          rw [← HS2.out] at HO
          go_wp2_with fail
          go_roundw
          case rel => exact ⟨k + 1, by omega, by go_num, HB, HO⟩
          case measure => simp [intOf]; omega
      · obtain rfl : k = l.length := by omega
        rw [List.take_length] at HO
        obtain ⟨b2, c2, rfl, _, hr2⟩ := ARow.ofOwn HO.out
        have HR2 := Lib.hid hr2
        clear hr2
        go_wp2_with fail
        go_ret
        exact ⟨b2, c2, by rw [HV.out]; rfl, by rw [HV.out]; exact HR2.out.mono (Nat.zero_le _), HB.out⟩

set_option maxHeartbeats 4000000 in
theorem zapR_any (pr pa n : Int) (B : Nat) (b : Option Addr) (l : List Ar) (cap : Nat) (w : World) (h : ARow B b cap l w) (hl : l.length ≤ 100) :
    Calls Try.prog 20 #[.slice b l.length cap, .int .i64 pr, .int .i64 pa, .int .i64 n] w fun e w' => ∃ b' c', e = .returned (.slice b' (cutL l (zapB pr pa n)).length c') ∧ ARow 0 b' c' (cutL l (zapB pr pa n)) w' ∧ Below w.heap.size w w' := by
  have HA : Hid (∀ W, Below w.heap.size w W → ∀ j, j < l.length → ∃ g, b = some ⟨g, 0, none⟩ ∧ g < w.heap.size ∧ (l.length : Int) ≤ cap ∧ Cel W g (j * 5) (l.getD j Ar.zero)) := by
    intro W hb j hj
    obtain ⟨g, h1, h2, h3, h4, h5, h6⟩ := h.at (by omega)
    exact ⟨g, h1, h3, by omega, (h6 j hj).eq (fun i => hb.cell (p := ⟨g, i, none⟩) h3)⟩
  have HCK := Lib.hid (checkR_any B b l cap w h hl)
  have HRW : Hid (∀ W, Below w.heap.size w W → ARow 0 b cap l W) := fun W hb => (h.below hb).mono (Nat.zero_le _)
  have HV1 : Hid (checkV l = true → cutL l (zapB pr pa n) = l.filter (fun x => !zapB pr pa n x)) := fun hc => by unfold cutL; rw [if_pos hc]
  have HV2 : Hid (checkV l = false → cutL l (zapB pr pa n) = l) := fun hc => by unfold cutL; rw [if_neg (by rw [hc]; simp)]
  generalize cutL l (zapB pr pa n) = V at *
  clear h
  obtain ⟨i0, hi, hz0, hz1, hz2⟩ := info_parts area_info
  go_enter Try.func20, Try.ntmps20
  go_wp2_with fail
  refine HCK.out.mono ?_; rintro e w1 ⟨rfl, hb⟩
  have HB := Lib.hid hb
  clear hb HCK
  cases hcv : checkV l with
  | false =>
    have HV := Lib.hid (HV2.out hcv)
    have HRR := Lib.hid (HRW.out w1 HB.out)
    clear HV1 HV2 hcv
    go_wp2_with fail
    go_ret
    exact ⟨b, cap, by rw [HV.out]; rfl, by rw [HV.out]; exact HRR.out, HB.out⟩
  | true =>
    have HV := Lib.hid (HV1.out hcv)
    clear HV1 HV2 hcv HRW
    go_wp2_with fail
    go_loopw [9, 10] (fun v9 v10 wr => ∃ k : Nat, k ≤ l.length ∧ v10 = .int .i64 k ∧ Hid (Below w.heap.size w wr) ∧ Hid (wr.ownsRow w.heap.size 30 5 v9 ((l.take k).filter (fun x => !zapB pr pa n x)).length (flat ((l.take k).filter (fun x => !zapB pr pa n x))))) (fun _ v10 _ => 200 - (intOf v10).toNat)
    case atStart => exact ⟨0, Nat.zero_le _, rfl, HB, World.ownsRow_nil _ _ _ _⟩
    case round =>
      clear HB
      obtain ⟨k, hk, rfl, HB, HO⟩ := hrel
      by_cases hlt : k < l.length
      · have hlt' : (k : Int) < (l.length : Int) := by omega
        obtain ⟨g, rfl, hg, hcap, hcel⟩ := HA.out _ HB.out k hlt
        have hL : ((l.take k).filter (fun x => !zapB pr pa n x)).length ≤ 100 := by
          have h1 := List.length_filter_le (fun x => !zapB pr pa n x) (l.take k)
          rw [List.length_take] at h1
          omega
        have HST : Hid ((fun x => !zapB pr pa n x) (l.getD k Ar.zero) = true → (l.take (k + 1)).filter (fun x => !zapB pr pa n x) = (l.take k).filter (fun x => !zapB pr pa n x) ++ [l.getD k Ar.zero]) := fun h => by
          rw [getD_get hlt] at h ⊢
          rw [take_succ_get hlt, List.filter_append, List.filter_cons, if_pos h]
          simp
        have HSF : Hid ((fun x => !zapB pr pa n x) (l.getD k Ar.zero) = false → (l.take (k + 1)).filter (fun x => !zapB pr pa n x) = (l.take k).filter (fun x => !zapB pr pa n x)) := fun h => by
          rw [getD_get hlt] at h
          rw [take_succ_get hlt, List.filter_append, List.filter_cons, if_neg (fun hh => by have := h.symm.trans hh; cases this)]
          simp
        clear HA HV
        generalize (l.take k).filter (fun x => !zapB pr pa n x) = L at *
        generalize l.getD k Ar.zero = e at *
        obtain ⟨s, c, f, p, q⟩ := e
        obtain ⟨k0, k1, k2, k3, k4⟩ := hcel
        simp only at k0 k1 k2 k3 k4
        by_cases hs : s = pr
        · subst hs
          by_cases hn : 1 ≤ n
          · by_cases hp : pa ≤ c
            · by_cases hq : pa ≤ wrap64 (c - n)
              · have HS2 := Lib.hid (HST.out (by exact by simp [zapB]; omega))
                go_wp2_with (at_builtin; refine wpList_append_own _ rfl _ _ 26 rfl w.heap.size 30 i0 _ 5 32 Try.underlying26 hi hz0 hz1 hz2 rfl (by decide) _ _ _ rfl (HO.out.alloc _) ⟨wr.heap.size, 0, none⟩ 1 1 [.int .i64 s, .int .i64 c, .int .i64 f, .bool p, .bool q] rfl rfl ?c1 ?c2 ?c3 ?c4 ?c5 ?_)
                try (case c1 => (intro j u hj; rw [Addr.add_lit]; exact cells_at (Blk.new wr s c f p q) j u hj))
                case c2 => first | exact ⟨rfl, rfl, rfl, rfl, rfl⟩ | (intro u hu; simp at hu; rcases hu with rfl | rfl | rfl | rfl | rfl <;> rfl)
                case c3 => unfold maxLen; omega
                case c4 => omega
                case c5 => have := HB.out.size; simp; omega
                intro vc wc hown' hgrow _
                have hbb : Below w.heap.size wr wc := ((Below.refl w.heap.size wr).alloc HB.out.size (Obj.cells #[Value.int IntKind.i64 s, Value.int IntKind.i64 c, Value.int IntKind.i64 f, Value.bool p, Value.bool q] 30)).grown hgrow (by have := HB.out.size; simp; omega) (fun x hx => (HO.out.lt x hx).1)
                replace HB := Lib.hid (HB.out.trans hbb)
                replace HO : Hid (wc.ownsRow w.heap.size 30 5 vc (L ++ [(Ar.mk s c f p q)]).length (flat (L ++ [(Ar.mk s c f p q)]))) := by
                  unfold Hid
                  rw [flat_append, flat_one]
                  simp only [List.length_append, List.length_singleton]
                  simpa [Ar.cells] using hown'
                clear hgrow hown' hbb
                rw [← HS2.out] at HO
                go_wp2_with fail
                go_roundw
                case rel => exact ⟨k + 1, by omega, by go_num, HB, HO⟩
                case measure => simp [intOf]; omega
              · have hq2 : wrap64 (c - n) < pa := by omega
                have HS2 := Lib.hid (HSF.out (by exact by simp [zapB]; omega))
                rw [← HS2.out] at HO
                go_wp2_with fail
                go_roundw
                case rel => exact ⟨k + 1, by omega, by go_num, HB, HO⟩
                case measure => simp [intOf]; omega
            · have hp2 : c < pa := by omega
              have HS2 := Lib.hid (HST.out (by exact by simp [zapB]; omega))
              go_wp2_with (at_builtin; refine wpList_append_own _ rfl _ _ 26 rfl w.heap.size 30 i0 _ 5 32 Try.underlying26 hi hz0 hz1 hz2 rfl (by decide) _ _ _ rfl (HO.out.alloc _) ⟨wr.heap.size, 0, none⟩ 1 1 [.int .i64 s, .int .i64 c, .int .i64 f, .bool p, .bool q] rfl rfl ?c1 ?c2 ?c3 ?c4 ?c5 ?_)
              try (case c1 => (intro j u hj; rw [Addr.add_lit]; exact cells_at (Blk.new wr s c f p q) j u hj))
              case c2 => first | exact ⟨rfl, rfl, rfl, rfl, rfl⟩ | (intro u hu; simp at hu; rcases hu with rfl | rfl | rfl | rfl | rfl <;> rfl)
              case c3 => unfold maxLen; omega
              case c4 => omega
              case c5 => have := HB.out.size; simp; omega
              intro vc wc hown' hgrow _
              have hbb : Below w.heap.size wr wc := ((Below.refl w.heap.size wr).alloc HB.out.size (Obj.cells #[Value.int IntKind.i64 s, Value.int IntKind.i64 c, Value.int IntKind.i64 f, Value.bool p, Value.bool q] 30)).grown hgrow (by have := HB.out.size; simp; omega) (fun x hx => (HO.out.lt x hx).1)
              replace HB := Lib.hid (HB.out.trans hbb)
              replace HO : Hid (wc.ownsRow w.heap.size 30 5 vc (L ++ [(Ar.mk s c f p q)]).length (flat (L ++ [(Ar.mk s c f p q)]))) := by
                unfold Hid
                rw [flat_append, flat_one]
                simp only [List.length_append, List.length_singleton]
                simpa [Ar.cells] using hown'
              clear hgrow hown' hbb
              rw [← HS2.out] at HO
              go_wp2_with fail
              go_roundw
              case rel => exact ⟨k + 1, by omega, by go_num, HB, HO⟩
              case measure => simp [intOf]; omega
          · have hn2 : n < 1 := by omega
            have HS2 := Lib.hid (HST.out (by exact by simp [zapB]; omega))
            go_wp2_with (at_builtin; refine wpList_append_own _ rfl _ _ 26 rfl w.heap.size 30 i0 _ 5 32 Try.underlying26 hi hz0 hz1 hz2 rfl (by decide) _ _ _ rfl (HO.out.alloc _) ⟨wr.heap.size, 0, none⟩ 1 1 [.int .i64 s, .int .i64 c, .int .i64 f, .bool p, .bool q] rfl rfl ?c1 ?c2 ?c3 ?c4 ?c5 ?_)
            try (case c1 => (intro j u hj; rw [Addr.add_lit]; exact cells_at (Blk.new wr s c f p q) j u hj))
            case c2 => first | exact ⟨rfl, rfl, rfl, rfl, rfl⟩ | (intro u hu; simp at hu; rcases hu with rfl | rfl | rfl | rfl | rfl <;> rfl)
            case c3 => unfold maxLen; omega
            case c4 => omega
            case c5 => have := HB.out.size; simp; omega
            intro vc wc hown' hgrow _
            have hbb : Below w.heap.size wr wc := ((Below.refl w.heap.size wr).alloc HB.out.size (Obj.cells #[Value.int IntKind.i64 s, Value.int IntKind.i64 c, Value.int IntKind.i64 f, Value.bool p, Value.bool q] 30)).grown hgrow (by have := HB.out.size; simp; omega) (fun x hx => (HO.out.lt x hx).1)
            replace HB := Lib.hid (HB.out.trans hbb)
            replace HO : Hid (wc.ownsRow w.heap.size 30 5 vc (L ++ [(Ar.mk s c f p q)]).length (flat (L ++ [(Ar.mk s c f p q)]))) := by
              unfold Hid
              rw [flat_append, flat_one]
              simp only [List.length_append, List.length_singleton]
              simpa [Ar.cells] using hown'
            clear hgrow hown' hbb
            rw [← HS2.out] at HO
            go_wp2_with fail
            go_roundw
            case rel => exact ⟨k + 1, by omega, by go_num, HB, HO⟩
            case measure => simp [intOf]; omega
        · have HS2 := Lib.hid (HST.out (by exact by simp [zapB]; omega))
          go_wp2_with (at_builtin; refine wpList_append_own _ rfl _ _ 26 rfl w.heap.size 30 i0 _ 5 32 Try.underlying26 hi hz0 hz1 hz2 rfl (by decide) _ _ _ rfl (HO.out.alloc _) ⟨wr.heap.size, 0, none⟩ 1 1 [.int .i64 s, .int .i64 c, .int .i64 f, .bool p, .bool q] rfl rfl ?c1 ?c2 ?c3 ?c4 ?c5 ?_)
          try (case c1 => (intro j u hj; rw [Addr.add_lit]; exact cells_at (Blk.new wr s c f p q) j u hj))
          case c2 => first | exact ⟨rfl, rfl, rfl, rfl, rfl⟩ | (intro u hu; simp at hu; rcases hu with rfl | rfl | rfl | rfl | rfl <;> rfl)
          case c3 => unfold maxLen; omega
          case c4 => omega
          case c5 => have := HB.out.size; simp; omega
          intro vc wc hown' hgrow _
          have hbb : Below w.heap.size wr wc := ((Below.refl w.heap.size wr).alloc HB.out.size (Obj.cells #[Value.int IntKind.i64 s, Value.int IntKind.i64 c, Value.int IntKind.i64 f, Value.bool p, Value.bool q] 30)).grown hgrow (by have := HB.out.size; simp; omega) (fun x hx => (HO.out.lt x hx).1)
          replace HB := Lib.hid (HB.out.trans hbb)
          replace HO : Hid (wc.ownsRow w.heap.size 30 5 vc (L ++ [(Ar.mk s c f p q)]).length (flat (L ++ [(Ar.mk s c f p q)]))) := by
            unfold Hid
            rw [flat_append, flat_one]
            simp only [List.length_append, List.length_singleton]
            simpa [Ar.cells] using hown'
          clear hgrow hown' hbb
          rw [← HS2.out] at HO
          go_wp2_with fail
          go_roundw
          case rel => exact ⟨k + 1, by omega, by go_num, HB, HO⟩
          case measure => simp [intOf]; omega
      · obtain rfl : k = l.length := by omega
        rw [List.take_length] at HO
        obtain ⟨b2, c2, rfl, _, hr2⟩ := ARow.ofOwn HO.out
        have HR2 := Lib.hid hr2
        clear hr2
        go_wp2_with fail
        go_ret
        exact ⟨b2, c2, by rw [HV.out]; rfl, by rw [HV.out]; exact HR2.out.mono (Nat.zero_le _), HB.out⟩
end Go.Proofs.Ytodonnagmgbliaa
