/- Protecting and ageing entries, as the document has it. -/
import Derived.Test.YtodonnagmgbliaaRf
import Derived.Laws.AppendOwnNone
namespace Go.Proofs.Ytodonnagmgbliaa
open Go.ChangeShapes Go.WideShapes Go.ChangeAt Go.RowKit

def proF (f : Int) (x : Ar) : Ar := if x.fr = f then ⟨x.pr, x.pa, x.fr, false, x.ac⟩ else x
def youF (f : Int) (x : Ar) : Ar := if x.fr = f then ⟨x.pr, x.pa, x.fr, x.wr, false⟩ else x
def mapL (l : List Ar) (F : Ar → Ar) : List Ar := if checkV l = true then l.map F else l
def acB (f : Int) (x : Ar) : Bool := frB f x && x.ac
def youB (l : List Ar) (f : Int) : Bool := checkV l && l.any (acB f)
theorem mapL_len (l : List Ar) (F : Ar → Ar) : (mapL l F).length = l.length := by unfold mapL; split <;> simp
def updTo (F : Ar → Ar) (l : List Ar) (k : Nat) : List Ar := (l.take k).map F ++ l.drop k
theorem updTo_len (F : Ar → Ar) (l : List Ar) (k : Nat) : (updTo F l k).length = l.length := by
  unfold updTo; simp only [List.length_append, List.length_map, List.length_take, List.length_drop]; omega
theorem updTo_get {F : Ar → Ar} {l : List Ar} {k : Nat} (h : k < l.length) : (updTo F l k).getD k Ar.zero = l.getD k Ar.zero := by
  rw [getD_get (by rw [updTo_len]; exact h), getD_get h]
  unfold updTo
  rw [List.getElem_append_right (by simp; omega)]
  simp only [List.length_map, List.length_take, List.getElem_drop]
  congr 1
  omega
theorem updTo_set {F : Ar → Ar} {l : List Ar} {k : Nat} (h : k < l.length) : (updTo F l k).set k (F (l.getD k Ar.zero)) = updTo F l (k + 1) := by
  unfold updTo
  have hl : ((l.take k).map F).length = k := by simp; omega
  rw [List.set_append_right _ _ (by omega), hl, Nat.sub_self, take_succ_get h, List.map_append, List.append_assoc, getD_get h]
  congr 1
  rw [← List.getElem_cons_drop h]
  rfl
theorem updTo_same {F : Ar → Ar} {l : List Ar} {k : Nat} (h : k < l.length) (hF : F (l.getD k Ar.zero) = l.getD k Ar.zero) : updTo F l (k + 1) = updTo F l k := by
  unfold updTo
  rw [take_succ_get h, List.map_append, List.append_assoc]
  congr 1
  rw [getD_get h] at hF
  rw [← List.getElem_cons_drop h]
  simp [hF]
theorem updTo_all (F : Ar → Ar) (l : List Ar) : updTo F l l.length = l.map F := by unfold updTo; simp
theorem updTo_zero (F : Ar → Ar) (l : List Ar) : updTo F l 0 = l := by unfold updTo; simp

set_option maxHeartbeats 4000000 in
theorem protR_any (fr : Int) (B : Nat) (b : Option Addr) (l : List Ar) (cap : Nat) (w : World) (h : ARow B b cap l w) (hl : l.length ≤ 100) :
    Calls Try.prog 26 #[.slice b l.length cap, .int .i64 fr] w fun e w' => ∃ b' c', e = .returned (.slice b' (mapL l (proF fr)).length c') ∧ ARow 0 b' c' (mapL l (proF fr)) w' ∧ Below w.heap.size w w' := by
  have HCK := Lib.hid (checkR_any B b l cap w h hl)
  have HRW : Hid (∀ W, Below w.heap.size w W → ARow 0 b cap l W) := fun W hb => (h.below hb).mono (Nat.zero_le _)
  have HV1 : Hid (checkV l = true → mapL l (proF fr) = l.map (proF fr)) := fun hc => by unfold mapL; rw [if_pos hc]
  have HV2 : Hid (checkV l = false → mapL l (proF fr) = l) := fun hc => by unfold mapL; rw [if_neg (by rw [hc]; simp)]
  have HVL : Hid ((mapL l (proF fr)).length = l.length) := mapL_len _ _
  generalize mapL l (proF fr) = V at *
  clear h
  obtain ⟨i0, hi, hz0, hz1, hz2⟩ := info_parts area_info
  go_enter Try.func26, Try.ntmps26
  go_wp2_with fail
  refine HCK.out.mono ?_; rintro e w1 ⟨rfl, hb⟩
  have HB := Lib.hid hb
  clear hb HCK
  cases hcv : checkV l with
  | false =>
    have HV := Lib.hid (HV2.out hcv)
    have HRR := Lib.hid (HRW.out w1 HB.out)
    clear HV1 HV2 hcv
    go_wp2_with fail
    go_ret
    exact ⟨b, cap, by rw [HV.out]; rfl, by rw [HV.out]; exact HRR.out, HB.out⟩
  | true =>
    have HV := Lib.hid (HV1.out hcv)
    have hr := HRW.out w1 HB.out
    clear HV1 HV2 hcv HRW
    rcases hr with ⟨rfl, rfl, rfl⟩ | ⟨g0, rfl, _, g2, g3, g4, g5⟩
    · go_wp2_with (at_builtin; refine wpList_append_own_none rfl _ _ 26 rfl w.heap.size 30 i0 5 Try.underlying26 hi _ 0 [] rfl (World.ownsRow_nil _ _ _ _) rfl ?_)
      go_loopw [6] (fun v6 wr => v6 = .int .i64 0 ∧ wr = w1) (fun v6 _ => 200 - (intOf v6).toNat)
      case atStart => exact ⟨rfl, rfl⟩
      case round =>
        obtain ⟨rfl, rfl⟩ := hrel
        go_wp2_with fail
        go_ret
        exact ⟨none, 0, by rw [HV.out]; rfl, by rw [HV.out]; exact Or.inl ⟨rfl, rfl, rfl⟩, HB.out⟩
    · have hfc := ARow.flat_cell g5
      have hfl := flat_len l
      have hsz := HB.out.size
      go_wp2_with (at_builtin; refine wpList_append_own _ rfl _ _ 26 rfl w1.heap.size 30 i0 _ 5 32 Try.underlying26 hi hz0 hz1 hz2 rfl (by decide) (.slice none 0 0) 0 [] rfl (World.ownsRow_nil _ _ _ _) ⟨g0, 0, none⟩ l.length cap (flat l) rfl hfl ?c1 cells_one ?c3 ?c4 (Nat.le_refl _) ?_)
      case c1 =>
        intro j u hj
        rw [Addr.add_lit, Nat.zero_add]
        exact hfc j u hj
      case c3 => unfold maxLen; omega
      case c4 => omega
      intro v2 w2 hown hgrow _
      have hown : w2.ownsRow w1.heap.size 30 5 v2 l.length (flat l) := by simpa using hown
      have hb2 : Below w1.heap.size w1 w2 := (Below.refl _ _).grown hgrow (Nat.le_refl _) (fun x hx => by cases hx)
      replace HB := Lib.hid (HB.out.trans (hb2.mono hsz))
      have HO := Lib.hid (own_mono hown hsz)
      clear hown hgrow hb2 hfc hfl g2 g3 g4 g5
      obtain ⟨b3, c3, rfl, _, _⟩ := ARow.ofOwn HO.out
      go_wp2_with fail
      go_loopw [6] (fun v6 wr => ∃ k : Nat, k ≤ l.length ∧ v6 = .int .i64 k ∧ Hid (Below w.heap.size w wr) ∧ Hid (wr.ownsRow w.heap.size 30 5 (.slice b3 l.length c3) l.length (flat (updTo (proF fr) l k)))) (fun v6 _ => 200 - (intOf v6).toNat)
      case atStart => exact ⟨0, Nat.zero_le _, rfl, HB, by rw [updTo_zero]; exact HO⟩
      case round =>
        clear HB HO
        obtain ⟨k, hk, rfl, HB, HO⟩ := hrel
        have HRL : Hid ((updTo (proF fr) l k).length = l.length) := updTo_len _ _ _
        have hr2 := ARow.ofOwn' (by have := HO.out; rw [← HRL.out] at this; exact this)
        by_cases hlt : k < l.length
        · have hlt' : (k : Int) < (l.length : Int) := by omega
          obtain ⟨g, rfl, hgb, hgw, hcp, _, hcl⟩ := hr2.at (by rw [HRL.out]; omega)
          have hcel := hcl k (by rw [HRL.out]; exact hlt)
          have hcap : (l.length : Int) ≤ c3 := by have := HRL.out; omega
          have HGET : Hid ((updTo (proF fr) l k).getD k Ar.zero = l.getD k Ar.zero) := updTo_get hlt
          have HUS : Hid ((updTo (proF fr) l k).set k (proF fr (l.getD k Ar.zero)) = updTo (proF fr) l (k + 1)) := updTo_set hlt
          have HUM : Hid (proF fr (l.getD k Ar.zero) = l.getD k Ar.zero → updTo (proF fr) l (k + 1) = updTo (proF fr) l k) := updTo_same hlt
          rw [HGET.out] at hcel
          have hfz := HO.out.frozenAt (k * 5 + 3)
          clear hcl hr2 HV
          generalize l.getD k Ar.zero = e at *
          obtain ⟨s, c, f, p, q⟩ := e
          obtain ⟨k0, k1, k2, k3, k4⟩ := hcel
          simp only at k0 k1 k2 k3 k4
          by_cases hf : f = fr
          · subst hf
            have HX : Hid (proF f ⟨s, c, f, p, q⟩ = ⟨s, c, f, false, q⟩) := by unfold Hid proF; rw [if_pos rfl]
            have hset := own_set2 HO.out HRL.out k hlt 3 (by omega) (Value.bool false) ⟨s, c, f, false, q⟩ (by rw [HGET.out]; rfl)
            rw [← HX.out, HUS.out] at hset
            have HS := Lib.hid hset
            have HBS := Lib.hid (HB.out.setCell (p := ⟨g, k * 5 + 3, none⟩) hgb (Value.bool false))
            clear hset HO HB
            go_wp2_with fail
            clear hfz
            go_roundw
            case rel => exact ⟨k + 1, by omega, by go_num, HBS, HS⟩
            case measure => simp [intOf]; omega
          · have hf2 : (f == fr) = false := by simpa using hf
            have HBS := HB
            have HS : Hid (wr.ownsRow w.heap.size 30 5 (.slice (some ⟨g, 0, none⟩) l.length c3) l.length (flat (updTo (proF fr) l (k + 1)))) := by
              unfold Hid
              rw [HUM.out (by unfold proF; rw [if_neg hf])]
              exact HO.out
            go_wp2_with fail
            clear hfz
            go_roundw
            case rel => exact ⟨k + 1, by omega, by go_num, HBS, HS⟩
            case measure => simp [intOf]; omega
        · obtain rfl : k = l.length := by omega
          rw [updTo_all, ← HV.out] at HO
          have HR2 : Hid (ARow 0 b3 c3 V wr) := by
            have := HO.out
            rw [← HVL.out] at this
            exact (ARow.ofOwn' this).mono (Nat.zero_le _)
          skip
          clear hr2
          go_wp2_with fail
          go_ret
          exact ⟨b3, c3, by rw [HVL.out]; rfl, HR2.out, HB.out⟩

set_option maxHeartbeats 4000000 in
theorem youngR_any (fr : Int) (B : Nat) (b : Option Addr) (l : List Ar) (cap : Nat) (w : World) (h : ARow B b cap l w) (hl : l.length ≤ 100) :
    Calls Try.prog 15 #[.slice b l.length cap, .int .i64 fr] w fun e w' => ∃ b' c', e = .returned (.tuple #[.slice b' (mapL l (youF fr)).length c', .bool (youB l fr)]) ∧ ARow 0 b' c' (mapL l (youF fr)) w' ∧ Below w.heap.size w w' := by
  have HCK := Lib.hid (checkR_any B b l cap w h hl)
  have HRW : Hid (∀ W, Below w.heap.size w W → ARow 0 b cap l W) := fun W hb => (h.below hb).mono (Nat.zero_le _)
  have HV1 : Hid (checkV l = true → mapL l (youF fr) = l.map (youF fr)) := fun hc => by unfold mapL; rw [if_pos hc]
  have HV2 : Hid (checkV l = false → mapL l (youF fr) = l) := fun hc => by unfold mapL; rw [if_neg (by rw [hc]; simp)]
  have HVL : Hid ((mapL l (youF fr)).length = l.length) := mapL_len _ _
  generalize mapL l (youF fr) = V at *
  have HY1 : Hid (checkV l = true → youB l fr = l.any (acB fr)) := fun hc => by unfold youB; rw [hc]; rfl
  have HY2 : Hid (checkV l = false → youB l fr = false) := fun hc => by unfold youB; rw [hc]; rfl
  generalize youB l fr = Y at *
  clear h
  obtain ⟨i0, hi, hz0, hz1, hz2⟩ := info_parts area_info
  go_enter Try.func15, Try.ntmps15
  go_wp2_with fail
  refine HCK.out.mono ?_; rintro e w1 ⟨rfl, hb⟩
  have HB := Lib.hid hb
  clear hb HCK
  cases hcv : checkV l with
  | false =>
    have HV := Lib.hid (HV2.out hcv)
    have HY := Lib.hid (HY2.out hcv)
    have HRR := Lib.hid (HRW.out w1 HB.out)
    clear HV1 HV2 hcv HY1 HY2
    go_wp2_with fail
    go_ret2
    exact ⟨b, cap, by rw [HV.out, HY.out]; rfl, by rw [HV.out]; exact HRR.out, HB.out⟩
  | true =>
    have HV := Lib.hid (HV1.out hcv)
    have HY := Lib.hid (HY1.out hcv)
    have hr := HRW.out w1 HB.out
    clear HV1 HV2 hcv HRW HY1 HY2
    rcases hr with ⟨rfl, rfl, rfl⟩ | ⟨g0, rfl, _, g2, g3, g4, g5⟩
    · go_wp2_with (at_builtin; refine wpList_append_own_none rfl _ _ 26 rfl w.heap.size 30 i0 5 Try.underlying26 hi _ 0 [] rfl (World.ownsRow_nil _ _ _ _) rfl ?_)
      go_loopw [7, 8] (fun v7 v8 wr => v8 = .int .i64 0 ∧ wr = w1 ∧ v7 = .bool false) (fun _ v8 _ => 200 - (intOf v8).toNat)
      case atStart => exact ⟨rfl, rfl, rfl⟩
      case round =>
        obtain ⟨rfl, rfl, rfl⟩ := hrel
        go_wp2_with fail
        go_ret2
        exact ⟨none, 0, by rw [HV.out, HY.out]; rfl, by rw [HV.out]; exact Or.inl ⟨rfl, rfl, rfl⟩, HB.out⟩
    · have hfc := ARow.flat_cell g5
      have hfl := flat_len l
      have hsz := HB.out.size
      go_wp2_with (at_builtin; refine wpList_append_own _ rfl _ _ 26 rfl w1.heap.size 30 i0 _ 5 32 Try.underlying26 hi hz0 hz1 hz2 rfl (by decide) (.slice none 0 0) 0 [] rfl (World.ownsRow_nil _ _ _ _) ⟨g0, 0, none⟩ l.length cap (flat l) rfl hfl ?c1 cells_one ?c3 ?c4 (Nat.le_refl _) ?_)
      case c1 =>
        intro j u hj
        rw [Addr.add_lit, Nat.zero_add]
        exact hfc j u hj
      case c3 => unfold maxLen; omega
      case c4 => omega
      intro v2 w2 hown hgrow _
      have hown : w2.ownsRow w1.heap.size 30 5 v2 l.length (flat l) := by simpa using hown
      have hb2 : Below w1.heap.size w1 w2 := (Below.refl _ _).grown hgrow (Nat.le_refl _) (fun x hx => by cases hx)
      replace HB := Lib.hid (HB.out.trans (hb2.mono hsz))
      have HO := Lib.hid (own_mono hown hsz)
      clear hown hgrow hb2 hfc hfl g2 g3 g4 g5
      obtain ⟨b3, c3, rfl, _, _⟩ := ARow.ofOwn HO.out
      go_wp2_with fail
      go_loopw [7, 8] (fun v7 v8 wr => ∃ k : Nat, k ≤ l.length ∧ v8 = .int .i64 k ∧ v7 = .bool ((l.take k).any (acB fr)) ∧ Hid (Below w.heap.size w wr) ∧ Hid (wr.ownsRow w.heap.size 30 5 (.slice b3 l.length c3) l.length (flat (updTo (youF fr) l k)))) (fun _ v8 _ => 200 - (intOf v8).toNat)
      case atStart => exact ⟨0, Nat.zero_le _, rfl, rfl, HB, by rw [updTo_zero]; exact HO⟩
      case round =>
        clear HB HO
        obtain ⟨k, hk, rfl, rfl, HB, HO⟩ := hrel
        have HRL : Hid ((updTo (youF fr) l k).length = l.length) := updTo_len _ _ _
        have hr2 := ARow.ofOwn' (by have := HO.out; rw [← HRL.out] at this; exact this)
        by_cases hlt : k < l.length
        · have hlt' : (k : Int) < (l.length : Int) := by omega
          obtain ⟨g, rfl, hgb, hgw, hcp, _, hcl⟩ := hr2.at (by rw [HRL.out]; omega)
          have hcel := hcl k (by rw [HRL.out]; exact hlt)
          have hcap : (l.length : Int) ≤ c3 := by have := HRL.out; omega
          have HGET : Hid ((updTo (youF fr) l k).getD k Ar.zero = l.getD k Ar.zero) := updTo_get hlt
          have HUS : Hid ((updTo (youF fr) l k).set k (youF fr (l.getD k Ar.zero)) = updTo (youF fr) l (k + 1)) := updTo_set hlt
          have HUM : Hid (youF fr (l.getD k Ar.zero) = l.getD k Ar.zero → updTo (youF fr) l (k + 1) = updTo (youF fr) l k) := updTo_same hlt
          rw [HGET.out] at hcel
          have hfz := HO.out.frozenAt (k * 5 + 4)
          clear hcl hr2 HV HY
          have HYS : Hid ((l.take (k + 1)).any (acB fr) = ((l.take k).any (acB fr) || acB fr (l.getD k Ar.zero))) := by unfold Hid; rw [take_succ_get hlt, List.any_append, getD_get hlt]; simp
          generalize (l.take k).any (acB fr) = yb at *
          generalize l.getD k Ar.zero = e at *
          obtain ⟨s, c, f, p, q⟩ := e
          obtain ⟨k0, k1, k2, k3, k4⟩ := hcel
          simp only at k0 k1 k2 k3 k4
          by_cases hf : f = fr
          · subst hf
            have HX : Hid (youF f ⟨s, c, f, p, q⟩ = ⟨s, c, f, p, false⟩) := by unfold Hid youF; rw [if_pos rfl]
            replace HYS : Hid ((l.take (k + 1)).any (acB f) = (yb || q)) := by unfold Hid; rw [HYS.out]; simp [acB, frB]
            have hset := own_set2 HO.out HRL.out k hlt 4 (by omega) (Value.bool false) ⟨s, c, f, p, false⟩ (by rw [HGET.out]; rfl)
            rw [← HX.out, HUS.out] at hset
            have HS := Lib.hid hset
            have HBS := Lib.hid (HB.out.setCell (p := ⟨g, k * 5 + 4, none⟩) hgb (Value.bool false))
            clear hset HO HB
            cases yb with
            | true =>
              go_wp2_with fail
              clear hfz
              go_roundw
              case rel => exact ⟨k + 1, by omega, by go_num, by rw [HYS.out]; simp, HBS, HS⟩
              case measure => simp [intOf]; omega
            | false =>
              go_wp2_with fail
              clear hfz
              go_roundw
              case rel => exact ⟨k + 1, by omega, by go_num, by rw [HYS.out]; simp, HBS, HS⟩
              case measure => simp [intOf]; omega
          · have hf2 : (f == fr) = false := by simpa using hf
            replace HYS : Hid ((l.take (k + 1)).any (acB fr) = yb) := by unfold Hid; rw [HYS.out]; simp [acB, frB, hf]
            have HBS := HB
            have HS : Hid (wr.ownsRow w.heap.size 30 5 (.slice (some ⟨g, 0, none⟩) l.length c3) l.length (flat (updTo (youF fr) l (k + 1)))) := by
              unfold Hid
              rw [HUM.out (by unfold youF; rw [if_neg hf])]
              exact HO.out
            go_wp2_with fail
            clear hfz
            go_roundw
            case rel => exact ⟨k + 1, by omega, by go_num, by rw [HYS.out], HBS, HS⟩
            case measure => simp [intOf]; omega
        · obtain rfl : k = l.length := by omega
          rw [updTo_all, ← HV.out] at HO
          have HR2 : Hid (ARow 0 b3 c3 V wr) := by
            have := HO.out
            rw [← HVL.out] at this
            exact (ARow.ofOwn' this).mono (Nat.zero_le _)
          rw [List.take_length, ← HY.out]
          clear hr2
          go_wp2_with fail
          go_ret2
          exact ⟨b3, c3, by rw [HVL.out]; rfl, HR2.out, HB.out⟩
end Go.Proofs.Ytodonnagmgbliaa
