/- Mapping an area as the document has it. -/
import Derived.Test.YtpnoilpdlnlebaaMp
namespace Go.Proofs.Ytpnoilpdlnlebaa
open Go.ChangeShapes Go.WideShapes Go.ChangeAt Go.RowKit

/-- the list that is built, and whether a has been placed, behind k elements -/
def refTo (l : List Ar) (a : Ar) : Nat → List Ar × Bool
  | 0 => ([], false)
  | k + 1 => if (refTo l a k).2 = false ∧ a.st < (l.getD k Ar.zero).st then ((refTo l a k).1 ++ [a] ++ [l.getD k Ar.zero], true) else ((refTo l a k).1 ++ [l.getD k Ar.zero], (refTo l a k).2)
def refV (l : List Ar) (a : Ar) : List Ar := if (refTo l a l.length).2 = true then (refTo l a l.length).1 else (refTo l a l.length).1 ++ [a]
theorem refTo_len (l : List Ar) (a : Ar) (k : Nat) : (refTo l a k).1.length ≤ 2 * k := by
  induction k with
  | zero => simp [refTo]
  | succ k ih =>
    unfold refTo
    split
    · simp; omega
    · simp; omega
theorem Blk.belowB {w w' : World} {g B : Nat} {a : Ar} (h : Blk w g a) (hb : Below B w w') (hg : g < B) : Blk w' g a :=
  ⟨Nat.lt_of_lt_of_le h.hi hb.size, by rw [hb.cell hg]; exact h.c0, by rw [hb.cell hg]; exact h.c1, by rw [hb.cell hg]; exact h.c2, by rw [hb.cell hg]; exact h.c3, by rw [hb.cell hg]; exact h.c4, fun i hi => by rw [hb.frozen hg]; exact h.f i hi⟩
theorem cells_at {w : World} {g : Nat} {s c f p : Int} {b : Bool} (h : Blk w g ⟨s, c, f, p, b⟩) (j : Nat) (u : Value) (hj : [Value.int .i64 s, .int .i64 c, .int .i64 f, .int .i64 p, .bool b][j]? = some u) : w.cell? ⟨g, 0 + j, none⟩ = some u := by
  have hj5 : j < 5 := by simpa using (List.getElem?_eq_some_iff.1 hj).1
  have h5 : j = 0 ∨ j = 1 ∨ j = 2 ∨ j = 3 ∨ j = 4 := by omega
  rcases h5 with rfl | rfl | rfl | rfl | rfl <;> simp at hj <;> subst hj
  · exact h.c0
  · exact h.c1
  · exact h.c2
  · exact h.c3
  · exact h.c4
theorem own_drewN {w : World} {B : Nat} {e : TypeId} {size n : Nat} {v : Value} {xs : List Value} (h : w.ownsRow B e size v n xs) (q : Nat) : (w.drewN q).ownsRow B e size v n xs := h
def mapRV (l : List Ar) (a : Ar) : List Ar × Int :=
  if checkV l = false then (l, 1) else if rightB a = false then (l, 2) else if hitTo l a l.length = true then (l, 5) else if 8 ≤ l.length then (l, 3) else (refV l a, 0)
set_option maxHeartbeats 8000000 in
theorem mapR_any (B : Nat) (b : Option Addr) (l : List Ar) (cap : Nat) (a : Ar) (w : World) (h : ARow B b cap l w) (hl : l.length ≤ 100) :
    Calls Try.prog 11 #[.slice b l.length cap, arVal a] w fun e w' => ∃ b' c', e = .returned (.tuple #[.slice b' (mapRV l a).1.length c', .int .i64 (mapRV l a).2]) ∧ (ARow w.heap.size b' c' (mapRV l a).1 w' ∨ (b' = b ∧ c' = cap ∧ (mapRV l a).1 = l)) ∧ Below w.heap.size w w' := by
  have HA : Hid (∀ W, Below w.heap.size w W → ∀ j, j < l.length → ∃ g, b = some ⟨g, 0, none⟩ ∧ g < W.heap.size ∧ (l.length : Int) ≤ cap ∧ Cel W g (j * 5) (l.getD j Ar.zero)) := by
    intro W hb j hj
    obtain ⟨g, h1, h2, h3, h4, h5, h6⟩ := (h.below hb).at (by omega)
    exact ⟨g, h1, h3, by omega, h6 j hj⟩
  have HCK : Hid (∀ W, Below w.heap.size w W → Calls Try.prog 21 #[.slice b l.length cap] W (RetW (.bool (checkV l)) W)) := fun W hb => checkR_any B b l cap W (h.below hb) hl
  have HRI := Lib.hid (fun w => rightR_any a w)
  have HR : Hid (checkV l = true → ∀ j, j < l.length → 0 ≤ (l.getD j Ar.zero).st ∧ 1 ≤ (l.getD j Ar.zero).cn ∧ (l.getD j Ar.zero).st + (l.getD j Ar.zero).cn ≤ 64) := fun hc j hj => by
    have := rightB_iff.1 (check_right hc j hj).1
    omega
  have HAR : Hid (rightB a = true → 0 ≤ a.st ∧ 1 ≤ a.cn ∧ a.st + a.cn ≤ 64) := fun hr => by have := rightB_iff.1 hr; omega
  have HV1 : Hid (checkV l = false → mapRV l a = (l, 1)) := fun hc => by unfold mapRV; rw [if_pos hc]
  have HV2 : Hid (checkV l = true → rightB a = false → mapRV l a = (l, 2)) := fun hc hr => by unfold mapRV; rw [if_neg (by rw [hc]; simp), if_pos hr]
  have HV3 : Hid (checkV l = true → rightB a = true → hitTo l a l.length = true → mapRV l a = (l, 5)) := fun hc hr hh => by unfold mapRV; rw [if_neg (by rw [hc]; simp), if_neg (by rw [hr]; simp), if_pos hh]
  have HV4 : Hid (checkV l = true → rightB a = true → hitTo l a l.length = false → mapRV l a = if 8 ≤ l.length then (l, 3) else (refV l a, 0)) := fun hc hr hh => by unfold mapRV; rw [if_neg (by rw [hc]; simp), if_neg (by rw [hr]; simp), if_neg (by rw [hh]; simp)]
  clear h
  obtain ⟨i0, hi, hz0, hz1, hz2⟩ := info_parts area_info
  unfold arVal
  obtain ⟨s, c, f, p, wb⟩ := a
  simp only at HRI HAR
  go_enter Try.func11, Try.ntmps11
  go_wp2_with fail
  have hbl := Blk.new w s c f p wb
  have HB : Hid (Below w.heap.size w (w.alloc (Obj.cells #[Value.int IntKind.i64 s, Value.int IntKind.i64 c, Value.int IntKind.i64 f, Value.int IntKind.i64 p, Value.bool wb] 30))) := (Below.refl _ w).alloc (Nat.le_refl _) _
  generalize w.alloc (Obj.cells #[Value.int IntKind.i64 s, Value.int IntKind.i64 c, Value.int IntKind.i64 f, Value.int IntKind.i64 p, Value.bool wb] 30) = w1 at *
  refine (HCK.out _ HB.out).mono ?_; rintro e w2 ⟨rfl, hb⟩
  have HPB := Lib.hid (hbl.below hb)
  replace HB := Lib.hid (HB.out.trans (hb.mono HB.out.size))
  clear hbl hb HCK
  cases hcv : checkV l with
  | false =>
    have HVV := Lib.hid (HV1.out hcv)
    clear HV1 HV2 HV3 HV4 HR
    go_wp2_with fail
    go_ret2
    exact ⟨b, cap, by rw [HVV.out]; rfl, by rw [HVV.out]; exact Or.inr ⟨rfl, rfl, rfl⟩, HB.out⟩
  | true =>
    have HR2 := Lib.hid (HR.out hcv)
    replace HV2 := Lib.hid (HV2.out hcv); replace HV3 := Lib.hid (HV3.out hcv); replace HV4 := Lib.hid (HV4.out hcv)
    clear HV1 HR hcv
    have c0 := HPB.out.c0; have c1 := HPB.out.c1; have c2 := HPB.out.c2; have c3 := HPB.out.c3; have c4 := HPB.out.c4
    simp only at c0 c1 c2 c3 c4
    go_wp2_with fail
    refine (HRI.out _).mono ?_; rintro e w4 ⟨rfl, hb⟩
    clear c0 c1 c2 c3 c4 HRI
    replace HB := Lib.hid (HB.out.trans (hb.mono HB.out.size))
    replace HPB := Lib.hid (HPB.out.below hb)
    clear hb
    cases hrv : rightB ⟨s, c, f, p, wb⟩ with
    | false =>
      have HVV := Lib.hid (HV2.out hrv)
      clear HV2 HV3 HV4 HAR
      go_wp2_with fail
      go_ret2
      exact ⟨b, cap, by rw [HVV.out]; rfl, by rw [HVV.out]; exact Or.inr ⟨rfl, rfl, rfl⟩, HB.out⟩
    | true =>
      replace HV3 := Lib.hid (HV3.out hrv); replace HV4 := Lib.hid (HV4.out hrv)
      obtain ⟨a1, a2, a3⟩ := HAR.out hrv
      clear HV2 HAR hrv
      have hw1 : IntKind.i64.wrap (s + c) = s + c := IntWalk.i64_in _ (by omega)
      go_wp2_with fail
      go_loopw [6] (fun v6 wr => ∃ k : Nat, k ≤ l.length ∧ v6 = .int .i64 k ∧ Hid (Below w.heap.size w wr) ∧ Hid (Blk wr w.heap.size ⟨s, c, f, p, wb⟩) ∧ Hid (hitTo l ⟨s, c, f, p, wb⟩ k = false)) (fun v6 _ => 200 - (intOf v6).toNat)
      case atStart => exact ⟨0, Nat.zero_le _, rfl, HB, HPB, rfl⟩
      case round =>
        clear HB HPB
        obtain ⟨k, hk, rfl, HB, HPB, HHT⟩ := hrel
        have dd0 := HPB.out.c0; have dd1 := HPB.out.c1; have dd2 := HPB.out.c2; have dd3 := HPB.out.c3; have dd4 := HPB.out.c4
        simp only at dd0 dd1 dd2 dd3 dd4
        by_cases hlt : k < l.length
        · have hlt' : (k : Int) < (l.length : Int) := by omega
          obtain ⟨g, rfl, hg, hcap, hcel⟩ := HA.out _ HB.out k hlt
          obtain ⟨e1, e2, e3⟩ := HR2.out k hlt
          have hhs := hitTo_succ l ⟨s, c, f, p, wb⟩ k hlt
          have hmo := @hitTo_mono l ⟨s, c, f, p, wb⟩ (k + 1)
          rw [HHT.out, Bool.false_or] at hhs
          clear HA
          generalize l.getD k Ar.zero = e at *
          obtain ⟨es, ec, ef, ep, eb⟩ := e
          obtain ⟨k0, k1, k2, k3, k4⟩ := hcel
          simp only at k0 k1 k2 k3 k4 e1 e2 e3
          have hhb : hitB ⟨s, c, f, p, wb⟩ ⟨es, ec, ef, ep, eb⟩ = decide (es < s + c ∧ s < es + ec) := rfl
          rw [hhb] at hhs
          have HHS := Lib.hid hhs
          have HMO := Lib.hid hmo
          clear hhs hmo hhb
          have hw2 : IntKind.i64.wrap (es + ec) = es + ec := IntWalk.i64_in _ (by omega)
          have HBd := Lib.hid HB.out.drew
          by_cases h2 : s < es + ec
          · by_cases h1 : es < s + c
            · have HH1 : Hid (hitTo l ⟨s, c, f, p, wb⟩ l.length = true) := HMO.out (by rw [HHS.out]; exact decide_eq_true ⟨h1, h2⟩) (by omega)
              have HVV := Lib.hid (HV3.out HH1.out)
              go_wp2_with fail
              go_quiet (fail)
              go_wp2_with fail
              go_ret2
              exact ⟨_, cap, by rw [HVV.out]; rfl, by rw [HVV.out]; exact Or.inr ⟨rfl, rfl, rfl⟩, below_drewN HB.out _⟩
            · have HHS2 : Hid (hitTo l ⟨s, c, f, p, wb⟩ (k + 1) = false) := by rw [Hid, HHS.out]; exact decide_eq_false (by omega)
              have h3 : s + c ≤ es := by omega
              go_wp2_with fail
              go_quiet (fail)
              go_wp2_with fail
              go_roundw
              case rel => exact ⟨k + 1, by omega, by go_num, below_drewN HB.out _, HPB.out.below (below_drewN (Below.refl _ _) _), HHS2⟩
              case measure => simp [intOf]; omega
          · have HHS2 : Hid (hitTo l ⟨s, c, f, p, wb⟩ (k + 1) = false) := by rw [Hid, HHS.out]; exact decide_eq_false (by omega)
            have h3 : es + ec ≤ s := by omega
            have h4 : decide (s < es + ec) = false := decide_eq_false h2
            go_wp2_with fail
            go_quiet (fail)
            go_wp2_with fail
            go_roundw
            case rel => exact ⟨k + 1, by omega, by go_num, below_drewN HB.out _, HPB.out.below (below_drewN (Below.refl _ _) _), HHS2⟩
            case measure => simp [intOf]; omega
        · obtain rfl : k = l.length := by omega
          have HVV := Lib.hid (HV4.out HHT.out)
          clear HV3 HV4
          by_cases h8 : 8 ≤ l.length
          · have hv := HVV.out
            rw [if_pos h8] at hv
            have HVW := Lib.hid hv
            have h9 : (8 : Int) ≤ (l.length : Int) := by omega
            clear hv HVV
            go_wp2_with fail
            go_ret2
            exact ⟨b, cap, by rw [HVW.out]; rfl, by rw [HVW.out]; exact Or.inr ⟨rfl, rfl, rfl⟩, HB.out⟩
          · have hv := HVV.out
            rw [if_neg h8] at hv
            have HVW := Lib.hid hv
            have h9 : (l.length : Int) < 8 := by omega
            clear hv HVV
            go_wp2_with fail
            go_loopw [7, 8, 9] (fun v7 v8 v9 wr => ∃ k : Nat, k ≤ l.length ∧ v9 = .int .i64 k ∧ v8 = .bool (refTo l ⟨s, c, f, p, wb⟩ k).2 ∧ Hid (Below w.heap.size w wr) ∧ Hid (Blk wr w.heap.size ⟨s, c, f, p, wb⟩) ∧ Hid (wr.ownsRow (w.heap.size + 1) 30 5 v7 (refTo l ⟨s, c, f, p, wb⟩ k).1.length (flat (refTo l ⟨s, c, f, p, wb⟩ k).1))) (fun _ _ v9 _ => 200 - (intOf v9).toNat)
            case atStart => exact ⟨0, Nat.zero_le _, rfl, rfl, HB, HPB, World.ownsRow_nil _ _ _ _⟩
            case round =>
              clear HB HPB dd0 dd1 dd2 dd3 dd4
              obtain ⟨k, hk, rfl, rfl, HB, HPB, HO⟩ := hrel
              have hrl := refTo_len l ⟨s, c, f, p, wb⟩ k
              by_cases hlt : k < l.length
              · have hlt' : (k : Int) < (l.length : Int) := by omega
                obtain ⟨g, rfl, _, hcap, _⟩ := HA.out _ HB.out k hlt
                have HXC : Hid (∀ W, Below w.heap.size w W → Cel W g (k * 5) (l.getD k Ar.zero)) := fun W hb => by
                  obtain ⟨g2, he, _, _, hc⟩ := HA.out W hb k hlt
                  cases he
                  exact hc
                have hsu : refTo l ⟨s, c, f, p, wb⟩ (k + 1) = if (refTo l ⟨s, c, f, p, wb⟩ k).2 = false ∧ s < (l.getD k Ar.zero).st then ((refTo l ⟨s, c, f, p, wb⟩ k).1 ++ [⟨s, c, f, p, wb⟩] ++ [l.getD k Ar.zero], true) else ((refTo l ⟨s, c, f, p, wb⟩ k).1 ++ [l.getD k Ar.zero], (refTo l ⟨s, c, f, p, wb⟩ k).2) := rfl
                have HSU := Lib.hid hsu
                clear hsu HA
                generalize (refTo l ⟨s, c, f, p, wb⟩ k).1 = L at *
                generalize (refTo l ⟨s, c, f, p, wb⟩ k).2 = pl at *
                generalize l.getD k Ar.zero = e at *
                obtain ⟨es, ec, ef, ep, eb⟩ := e
                have dd0 := HPB.out.c0; have dd1 := HPB.out.c1; have dd2 := HPB.out.c2; have dd3 := HPB.out.c3; have dd4 := HPB.out.c4
                simp only at dd0 dd1 dd2 dd3 dd4
                have hx9 := HXC.out _ HB.out
                obtain ⟨k0, k1, k2, k3, k4⟩ := hx9
                simp only at k0 k1 k2 k3 k4
                cases pl with
                | true =>
                  have hs := HSU.out
                  rw [if_neg (by simp)] at hs
                  have HS := Lib.hid hs
                  clear hs HSU
                  go_wp2_with fail
                  go_quiet (fail)
                  replace HB := Lib.hid (below_drewN HB.out nq)
                  replace HPB := Lib.hid (HPB.out.below (below_drewN (Below.refl _ _) nq))
                  replace HO := Lib.hid (own_drewN HO.out nq)
                  generalize wr.drewN nq = w8 at *
                  clear k0 k1 k2 k3 k4 dd0 dd1 dd2 dd3 dd4
                  have hx9 := HXC.out _ HB.out
                  obtain ⟨k0, k1, k2, k3, k4⟩ := hx9
                  simp only at k0 k1 k2 k3 k4
                  go_wp2_with (at_builtin; refine wpList_append_own _ rfl _ _ 26 rfl (w.heap.size + 1) 30 i0 _ 5 40 Try.underlying26 hi hz0 hz1 hz2 rfl (by decide) _ _ _ rfl (HO.out.alloc _) ⟨w8.heap.size, 0, none⟩ 1 1 [.int .i64 es, .int .i64 ec, .int .i64 ef, .int .i64 ep, .bool eb] rfl rfl ?c1 ?c2 ?c3 ?c4 ?c5 ?_)
                  case c1 =>
                    intro j u hj
                    rw [Addr.add_lit]
                    exact cells_at (Blk.new w8 es ec ef ep eb) j u hj
                  case c2 =>
                    intro u hu
                    simp at hu
                    rcases hu with rfl | rfl | rfl | rfl | rfl <;> rfl
                  case c3 => unfold maxLen; omega
                  case c4 => omega
                  case c5 => have := HPB.out.hi; simp; omega
                  intro vw9 w9 hown' hgrow _
                  have hbb : Below (w.heap.size + 1) w8 w9 := ((Below.refl (w.heap.size + 1) w8).alloc HPB.out.hi (Obj.cells #[Value.int IntKind.i64 es, Value.int IntKind.i64 ec, Value.int IntKind.i64 ef, Value.int IntKind.i64 ep, Value.bool eb] 30)).grown hgrow (by have := HPB.out.hi; simp; omega) (fun x hx => (HO.out.lt x hx).1)
                  replace HB := Lib.hid (HB.out.trans (hbb.mono (Nat.le_succ _)))
                  replace HPB := Lib.hid (HPB.out.belowB hbb (Nat.lt_succ_self _))
                  replace HO : Hid (w9.ownsRow (w.heap.size + 1) 30 5 vw9 (L ++ [(Ar.mk es ec ef ep eb)]).length (flat (L ++ [(Ar.mk es ec ef ep eb)]))) := by
                    unfold Hid
                    rw [flat_append, flat_one]
                    simp only [List.length_append, List.length_singleton]
                    simpa [Ar.cells] using hown'
                  clear hgrow hown' hbb
                  go_wp2_with fail
                  go_roundw
                  case rel => exact ⟨k + 1, by omega, by go_num, by rw [HS.out], HB, HPB, by rw [HS.out]; exact HO⟩
                  case measure => simp [intOf]; omega
                | false =>
                  by_cases hse : s < es
                  · have hs := HSU.out
                    rw [if_pos ⟨rfl, hse⟩] at hs
                    have HS := Lib.hid hs
                    clear hs HSU
                    go_wp2_with fail
                    go_quiet (fail)
                    replace HB := Lib.hid (below_drewN HB.out nq)
                    replace HPB := Lib.hid (HPB.out.below (below_drewN (Below.refl _ _) nq))
                    replace HO := Lib.hid (own_drewN HO.out nq)
                    generalize wr.drewN nq = w8 at *
                    clear k0 k1 k2 k3 k4 dd0 dd1 dd2 dd3 dd4
                    have dd0 := HPB.out.c0; have dd1 := HPB.out.c1; have dd2 := HPB.out.c2; have dd3 := HPB.out.c3; have dd4 := HPB.out.c4
                    simp only at dd0 dd1 dd2 dd3 dd4
                    go_wp2_with (at_builtin; refine wpList_append_own _ rfl _ _ 26 rfl (w.heap.size + 1) 30 i0 _ 5 40 Try.underlying26 hi hz0 hz1 hz2 rfl (by decide) _ _ _ rfl (HO.out.alloc _) ⟨w8.heap.size, 0, none⟩ 1 1 [.int .i64 s, .int .i64 c, .int .i64 f, .int .i64 p, .bool wb] rfl rfl ?c1 ?c2 ?c3 ?c4 ?c5 ?_)
                    case c1 =>
                      intro j u hj
                      rw [Addr.add_lit]
                      exact cells_at (Blk.new w8 s c f p wb) j u hj
                    case c2 =>
                      intro u hu
                      simp at hu
                      rcases hu with rfl | rfl | rfl | rfl | rfl <;> rfl
                    case c3 => unfold maxLen; omega
                    case c4 => omega
                    case c5 => have := HPB.out.hi; simp; omega
                    intro vw9 w9 hown' hgrow _
                    have hbb : Below (w.heap.size + 1) w8 w9 := ((Below.refl (w.heap.size + 1) w8).alloc HPB.out.hi (Obj.cells #[Value.int IntKind.i64 s, Value.int IntKind.i64 c, Value.int IntKind.i64 f, Value.int IntKind.i64 p, Value.bool wb] 30)).grown hgrow (by have := HPB.out.hi; simp; omega) (fun x hx => (HO.out.lt x hx).1)
                    replace HB := Lib.hid (HB.out.trans (hbb.mono (Nat.le_succ _)))
                    replace HPB := Lib.hid (HPB.out.belowB hbb (Nat.lt_succ_self _))
                    replace HO : Hid (w9.ownsRow (w.heap.size + 1) 30 5 vw9 (L ++ [(Ar.mk s c f p wb)]).length (flat (L ++ [(Ar.mk s c f p wb)]))) := by
                      unfold Hid
                      rw [flat_append, flat_one]
                      simp only [List.length_append, List.length_singleton]
                      simpa [Ar.cells] using hown'
                    clear hgrow hown' hbb
                    clear dd0 dd1 dd2 dd3 dd4
                    have hx9 := HXC.out _ HB.out
                    obtain ⟨k0, k1, k2, k3, k4⟩ := hx9
                    simp only at k0 k1 k2 k3 k4
                    go_wp2_with (at_builtin; refine wpList_append_own _ rfl _ _ 26 rfl (w.heap.size + 1) 30 i0 _ 5 40 Try.underlying26 hi hz0 hz1 hz2 rfl (by decide) _ _ _ rfl (HO.out.alloc _) ⟨w9.heap.size, 0, none⟩ 1 1 [.int .i64 es, .int .i64 ec, .int .i64 ef, .int .i64 ep, .bool eb] rfl rfl ?c1 ?c2 ?c3 ?c4 ?c5 ?_)
                    case c1 =>
                      intro j u hj
                      rw [Addr.add_lit]
                      exact cells_at (Blk.new w9 es ec ef ep eb) j u hj
                    case c2 =>
                      intro u hu
                      simp at hu
                      rcases hu with rfl | rfl | rfl | rfl | rfl <;> rfl
                    case c3 => unfold maxLen; simp; omega
                    case c4 => simp; omega
                    case c5 => have := HPB.out.hi; simp; omega
                    intro vw10 w10 hown' hgrow _
                    have hbb : Below (w.heap.size + 1) w9 w10 := ((Below.refl (w.heap.size + 1) w9).alloc HPB.out.hi (Obj.cells #[Value.int IntKind.i64 es, Value.int IntKind.i64 ec, Value.int IntKind.i64 ef, Value.int IntKind.i64 ep, Value.bool eb] 30)).grown hgrow (by have := HPB.out.hi; simp; omega) (fun x hx => (HO.out.lt x hx).1)
                    replace HB := Lib.hid (HB.out.trans (hbb.mono (Nat.le_succ _)))
                    replace HPB := Lib.hid (HPB.out.belowB hbb (Nat.lt_succ_self _))
                    replace HO : Hid (w10.ownsRow (w.heap.size + 1) 30 5 vw10 ((L ++ [Ar.mk s c f p wb]) ++ [(Ar.mk es ec ef ep eb)]).length (flat ((L ++ [Ar.mk s c f p wb]) ++ [(Ar.mk es ec ef ep eb)]))) := by
                      unfold Hid
                      rw [flat_append, flat_one]
                      simp only [List.length_append, List.length_singleton]
                      simpa [Ar.cells] using hown'
                    clear hgrow hown' hbb
                    go_wp2_with fail
                    go_roundw
                    case rel => exact ⟨k + 1, by omega, by go_num, by rw [HS.out], HB, HPB, by rw [HS.out]; exact HO⟩
                    case measure => simp [intOf]; omega
                  · have hs := HSU.out
                    rw [if_neg (fun hh => hse hh.2)] at hs
                    have HS := Lib.hid hs
                    have hse2 : es ≤ s := by omega
                    have hse3 : decide (s < es) = false := decide_eq_false hse
                    clear hs HSU
                    go_wp2_with fail
                    go_quiet (fail)
                    replace HB := Lib.hid (below_drewN HB.out nq)
                    replace HPB := Lib.hid (HPB.out.below (below_drewN (Below.refl _ _) nq))
                    replace HO := Lib.hid (own_drewN HO.out nq)
                    generalize wr.drewN nq = w8 at *
                    clear k0 k1 k2 k3 k4 dd0 dd1 dd2 dd3 dd4
                    have hx9 := HXC.out _ HB.out
                    obtain ⟨k0, k1, k2, k3, k4⟩ := hx9
                    simp only at k0 k1 k2 k3 k4
                    go_wp2_with (at_builtin; refine wpList_append_own _ rfl _ _ 26 rfl (w.heap.size + 1) 30 i0 _ 5 40 Try.underlying26 hi hz0 hz1 hz2 rfl (by decide) _ _ _ rfl (HO.out.alloc _) ⟨w8.heap.size, 0, none⟩ 1 1 [.int .i64 es, .int .i64 ec, .int .i64 ef, .int .i64 ep, .bool eb] rfl rfl ?c1 ?c2 ?c3 ?c4 ?c5 ?_)
                    case c1 =>
                      intro j u hj
                      rw [Addr.add_lit]
                      exact cells_at (Blk.new w8 es ec ef ep eb) j u hj
                    case c2 =>
                      intro u hu
                      simp at hu
                      rcases hu with rfl | rfl | rfl | rfl | rfl <;> rfl
                    case c3 => unfold maxLen; omega
                    case c4 => omega
                    case c5 => have := HPB.out.hi; simp; omega
                    intro vw9 w9 hown' hgrow _
                    have hbb : Below (w.heap.size + 1) w8 w9 := ((Below.refl (w.heap.size + 1) w8).alloc HPB.out.hi (Obj.cells #[Value.int IntKind.i64 es, Value.int IntKind.i64 ec, Value.int IntKind.i64 ef, Value.int IntKind.i64 ep, Value.bool eb] 30)).grown hgrow (by have := HPB.out.hi; simp; omega) (fun x hx => (HO.out.lt x hx).1)
                    replace HB := Lib.hid (HB.out.trans (hbb.mono (Nat.le_succ _)))
                    replace HPB := Lib.hid (HPB.out.belowB hbb (Nat.lt_succ_self _))
                    replace HO : Hid (w9.ownsRow (w.heap.size + 1) 30 5 vw9 (L ++ [(Ar.mk es ec ef ep eb)]).length (flat (L ++ [(Ar.mk es ec ef ep eb)]))) := by
                      unfold Hid
                      rw [flat_append, flat_one]
                      simp only [List.length_append, List.length_singleton]
                      simpa [Ar.cells] using hown'
                    clear hgrow hown' hbb
                    go_wp2_with fail
                    go_roundw
                    case rel => exact ⟨k + 1, by omega, by go_num, by rw [HS.out], HB, HPB, by rw [HS.out]; exact HO⟩
                    case measure => simp [intOf]; omega
              · obtain rfl : k = l.length := by omega
                have hrv : refV l ⟨s, c, f, p, wb⟩ = if (refTo l ⟨s, c, f, p, wb⟩ l.length).2 = true then (refTo l ⟨s, c, f, p, wb⟩ l.length).1 else (refTo l ⟨s, c, f, p, wb⟩ l.length).1 ++ [⟨s, c, f, p, wb⟩] := rfl
                rw [hrv] at HVW
                clear hrv
                generalize (refTo l ⟨s, c, f, p, wb⟩ l.length).1 = L at *
                generalize (refTo l ⟨s, c, f, p, wb⟩ l.length).2 = pl at *
                cases pl with
                | true =>
                  rw [if_pos rfl] at HVW
                  obtain ⟨b7, c7, rfl, _, hr7⟩ := ARow.ofOwn HO.out
                  have HR7 := Lib.hid hr7
                  go_wp2_with fail
                  go_ret2
                  exact ⟨b7, c7, by rw [HVW.out]; rfl, by rw [HVW.out]; exact Or.inl (HR7.out.mono (Nat.le_succ _)), HB.out⟩
                | false =>
                  rw [if_neg (by simp)] at HVW
                  have dd0 := HPB.out.c0; have dd1 := HPB.out.c1; have dd2 := HPB.out.c2; have dd3 := HPB.out.c3; have dd4 := HPB.out.c4
                  simp only at dd0 dd1 dd2 dd3 dd4
                  go_wp2_with (at_builtin; refine wpList_append_own _ rfl _ _ 26 rfl (w.heap.size + 1) 30 i0 _ 5 40 Try.underlying26 hi hz0 hz1 hz2 rfl (by decide) _ _ _ rfl (HO.out.alloc _) ⟨wr.heap.size, 0, none⟩ 1 1 [.int .i64 s, .int .i64 c, .int .i64 f, .int .i64 p, .bool wb] rfl rfl ?c1 ?c2 ?c3 ?c4 ?c5 ?_)
                  case c1 =>
                    intro j u hj
                    rw [Addr.add_lit]
                    exact cells_at (Blk.new wr s c f p wb) j u hj
                  case c2 =>
                    intro u hu
                    simp at hu
                    rcases hu with rfl | rfl | rfl | rfl | rfl <;> rfl
                  case c3 => unfold maxLen; omega
                  case c4 => omega
                  case c5 => have := HPB.out.hi; simp; omega
                  intro vw9 w9 hown' hgrow _
                  have hbb : Below (w.heap.size + 1) wr w9 := ((Below.refl (w.heap.size + 1) wr).alloc HPB.out.hi (Obj.cells #[Value.int IntKind.i64 s, Value.int IntKind.i64 c, Value.int IntKind.i64 f, Value.int IntKind.i64 p, Value.bool wb] 30)).grown hgrow (by have := HPB.out.hi; simp; omega) (fun x hx => (HO.out.lt x hx).1)
                  replace HB := Lib.hid (HB.out.trans (hbb.mono (Nat.le_succ _)))
                  replace HPB := Lib.hid (HPB.out.belowB hbb (Nat.lt_succ_self _))
                  replace HO : Hid (w9.ownsRow (w.heap.size + 1) 30 5 vw9 (L ++ [(Ar.mk s c f p wb)]).length (flat (L ++ [(Ar.mk s c f p wb)]))) := by
                    unfold Hid
                    rw [flat_append, flat_one]
                    simp only [List.length_append, List.length_singleton]
                    simpa [Ar.cells] using hown'
                  clear hgrow hown' hbb
                  obtain ⟨b7, c7, rfl, _, hr7⟩ := ARow.ofOwn HO.out
                  have HR7 := Lib.hid hr7
                  have HLEN : Hid ((L ++ [(⟨s, c, f, p, wb⟩ : Ar)]).length = L.length + 1) := by unfold Hid; simp
                  go_wp2_with fail
                  go_ret2
                  exact ⟨b7, c7, by rw [HVW.out, HLEN.out]; rfl, by rw [HVW.out]; exact Or.inl (HR7.out.mono (Nat.le_succ _)), HB.out⟩
end Go.Proofs.Ytpnoilpdlnlebaa
