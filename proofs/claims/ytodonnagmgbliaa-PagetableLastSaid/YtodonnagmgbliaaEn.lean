/- Entering an entry. -/
import Derived.Test.YtodonnagmgbliaaOw
namespace Go.Proofs.Ytodonnagmgbliaa
open Go.ChangeShapes Go.WideShapes Go.ChangeAt Go.RowKit

set_option maxHeartbeats 4000000 in
theorem enter_any (B : Nat) (b : Option Addr) (l : List Ar) (cap : Nat) (e : Ar) (w : World) (h : ARow B b cap l w) (hl : l.length ≤ 100) :
    Calls Try.prog 10 #[.slice b l.length cap, arVal e] w fun e' w' => ∃ b' c', e' = .returned (.tuple #[.slice b' (enterL l e).length c', .int .i64 (enterE l e)]) ∧ ARow w.heap.size b' c' (enterL l e) w' ∧ Below w.heap.size w w' := by
  have HCK : Hid (∀ W, Below w.heap.size w W → Calls Try.prog 16 #[.slice b l.length cap] W (RetW (.bool (checkV l)) W)) := fun W hb => check_any B b l cap W (h.below hb) hl
  have HCL : Hid (∀ W, Below w.heap.size w W → Calls Try.prog 31 #[.slice b l.length cap] W fun e w' => ∃ v, e = .returned v ∧ w'.ownsRow W.heap.size 30 5 v l.length (flat l) ∧ Below W.heap.size W w') := fun W hb => clone_any B b l cap W (h.below hb) (by omega)
  have HRI := Lib.hid (fun w => right_any e w)
  have HV1 : Hid (checkV l = false → enterL l e = l ∧ enterE l e = 1) := fun hc => by unfold enterL enterE; rw [hc]; exact ⟨rfl, rfl⟩
  have HV2 : Hid (checkV l = true → rightB e = false → enterL l e = l ∧ enterE l e = 2) := fun hc hr => by unfold enterL enterE; rw [hc, hr]; exact ⟨rfl, rfl⟩
  have HV3 : Hid (checkV l = true → rightB e = true → enterL l e = enterP l e ∧ enterE l e = 0) := fun hc hr => by unfold enterL enterE; rw [hc, hr]; exact ⟨rfl, rfl⟩
  have HS : Hid (checkV l = true → ∀ B' a' c' W, ARow B' a' c' l W → Calls Try.prog 33 #[.slice a' l.length c', arVal e, .func (.func 34) #[] #[]] W fun e' w' => ∃ i : Nat, Place l e i ∧ e' = .returned (.tuple #[.int .i64 i, .bool (foundB l e i)]) ∧ Below W.heap.size W w') :=
    fun hc B' a' c' W hr => bsearch_any B' a' l c' e W hr hl (checkV_sorted hc)
  have HF : Hid (checkV l = true → ∀ i, Place l e i → foundB l e i = true → i < l.length ∧ enterP l e = l.set i e) := fun hc i hp hf => enter_found (checkV_sorted hc) hp hf
  have HN : Hid (checkV l = true → ∀ i, Place l e i → foundB l e i = false → i ≤ l.length ∧ enterP l e = insAt l i e) := fun hc i hp hf => ⟨hp.1, enter_new (checkV_sorted hc) hp hf⟩
  clear h
  unfold arVal at HRI HS ⊢
  obtain ⟨s, c, f, p, q⟩ := e
  simp only at HRI HS ⊢
  go_enter Try.func10, Try.ntmps10
  go_wp2_with fail
  have hbl := Blk.new w s c f p q
  have HB : Hid (Below w.heap.size w (w.alloc (Obj.cells #[Value.int IntKind.i64 s, Value.int IntKind.i64 c, Value.int IntKind.i64 f, Value.bool p, Value.bool q] 30))) := (Below.refl _ w).alloc (Nat.le_refl _) _
  have hsz1 : (w.alloc (Obj.cells #[Value.int IntKind.i64 s, Value.int IntKind.i64 c, Value.int IntKind.i64 f, Value.bool p, Value.bool q] 30)).heap.size = w.heap.size + 1 := by simp
  generalize w.alloc (Obj.cells #[Value.int IntKind.i64 s, Value.int IntKind.i64 c, Value.int IntKind.i64 f, Value.bool p, Value.bool q] 30) = w1 at *
  refine (HCL.out _ HB.out).mono ?_; rintro e w2 ⟨v2, rfl, ho, hb⟩
  have HPB := Lib.hid (hbl.below hb)
  replace HB := Lib.hid (HB.out.trans (hb.mono HB.out.size))
  obtain ⟨b2, c2, rfl, _, hr2⟩ := ARow.ofOwn ho
  rw [hsz1] at ho hr2
  have HO := Lib.hid ho
  have HR := Lib.hid hr2
  clear hbl hb HCL ho hr2 hsz1
  go_wp2_with fail
  refine (HCK.out _ HB.out).mono ?_; rintro e w3 ⟨rfl, hb⟩
  replace HPB := Lib.hid (HPB.out.below hb)
  replace HO := Lib.hid (ownsRow_below HO.out hb)
  replace HR := Lib.hid (HR.out.below hb)
  replace HB := Lib.hid (HB.out.trans (hb.mono HB.out.size))
  clear hb HCK
  have dd0 := HPB.out.c0; have dd1 := HPB.out.c1; have dd2 := HPB.out.c2; have dd3 := HPB.out.c3; have dd4 := HPB.out.c4
  simp only at dd0 dd1 dd2 dd3 dd4
  cases hcv : checkV l with
  | false =>
    obtain ⟨hv1, hv2⟩ := HV1.out hcv
    have HVV1 := Lib.hid hv1; have HVV2 := Lib.hid hv2
    clear HV1 HV2 HV3 HS HF HN hv1 hv2
    go_wp2_with fail
    go_ret2
    exact ⟨b2, c2, by rw [HVV1.out, HVV2.out]; rfl, by rw [HVV1.out]; exact HR.out.mono (Nat.le_succ _), HB.out⟩
  | true =>
    replace HV2 := Lib.hid (HV2.out hcv); replace HV3 := Lib.hid (HV3.out hcv); replace HS := Lib.hid (HS.out hcv); replace HF := Lib.hid (HF.out hcv); replace HN := Lib.hid (HN.out hcv)
    clear HV1 hcv
    go_wp2_with fail
    refine (HRI.out _).mono ?_; rintro e w4 ⟨rfl, hb⟩
    clear dd0 dd1 dd2 dd3 dd4 HRI
    replace HPB := Lib.hid (HPB.out.below hb)
    replace HO := Lib.hid (ownsRow_below HO.out hb)
    replace HR := Lib.hid (HR.out.below hb)
    replace HB := Lib.hid (HB.out.trans (hb.mono HB.out.size))
    clear hb
    have dd0 := HPB.out.c0; have dd1 := HPB.out.c1; have dd2 := HPB.out.c2; have dd3 := HPB.out.c3; have dd4 := HPB.out.c4
    simp only at dd0 dd1 dd2 dd3 dd4
    cases hrv : rightB ⟨s, c, f, p, q⟩ with
    | false =>
      obtain ⟨hv1, hv2⟩ := HV2.out hrv
      have HVV1 := Lib.hid hv1; have HVV2 := Lib.hid hv2
      clear HV2 HV3 HS HF HN hv1 hv2
      go_wp2_with fail
      go_ret2
      exact ⟨b2, c2, by rw [HVV1.out, HVV2.out]; rfl, by rw [HVV1.out]; exact HR.out.mono (Nat.le_succ _), HB.out⟩
    | true =>
      obtain ⟨hv1, hv2⟩ := HV3.out hrv
      have HVV1 := Lib.hid hv1; have HVV2 := Lib.hid hv2
      clear HV2 HV3 hv1 hv2 hrv
      go_wp2_with fail
      refine (HS.out _ _ _ _ HR.out).mono ?_; rintro e w5 ⟨i, hpl, rfl, hb⟩
      clear dd0 dd1 dd2 dd3 dd4 HS
      replace HPB := Lib.hid (HPB.out.below hb)
      replace HO := Lib.hid (ownsRow_below HO.out hb)
      replace HR := Lib.hid (HR.out.below hb)
      replace HB := Lib.hid (HB.out.trans (hb.mono HB.out.size))
      have HPL := Lib.hid hpl
      clear hb hpl
      have dd0 := HPB.out.c0; have dd1 := HPB.out.c1; have dd2 := HPB.out.c2; have dd3 := HPB.out.c3; have dd4 := HPB.out.c4
      simp only at dd0 dd1 dd2 dd3 dd4
      cases hf : foundB l ⟨s, c, f, p, q⟩ i with
      | true =>
        obtain ⟨hil, hv⟩ := HF.out i HPL.out hf
        have HV := Lib.hid hv
        clear hv hf HF HN HPL
        obtain ⟨g, rfl, hg1, hg2, hcp, _, _⟩ := HR.out.at (by omega)
        have hil' : (i : Int) < (l.length : Int) := by omega
        have hcp' : (l.length : Int) ≤ c2 := by omega
        have hcel := own_cel HO.out i hil
        have hfz := HO.out.frozenAt (i * 5)
        have hfz1 := HO.out.frozenAt (i * 5 + 1)
        have hfz2 := HO.out.frozenAt (i * 5 + 2)
        have hfz3 := HO.out.frozenAt (i * 5 + 3)
        have hfz4 := HO.out.frozenAt (i * 5 + 4)
        generalize l.getD i Ar.zero = e6 at *
        obtain ⟨es, ec, ef, ep, eb⟩ := e6
        obtain ⟨k0, k1, k2, k3, k4⟩ := hcel
        simp only at k0 k1 k2 k3 k4
        have HP : Hid ((putAt w5 g (i * 5) s c f p q).ownsRow (w.heap.size + 1) 30 5 (.slice (some ⟨g, 0, none⟩) l.length c2) l.length (flat (l.set i ⟨s, c, f, p, q⟩))) := own_put HO.out rfl i hil s c f p q
        have HBP : Hid (Below w.heap.size w (putAt w5 g (i * 5) s c f p q)) := HB.out.trans (putAt_below w5 g (i * 5) s c f p q (by omega))
        unfold putAt at HP HBP
        clear HO HR HB HPB
        go_wp2_with fail
        generalize (((((w5.setCell { block := g, off := i * 5 } (Value.int IntKind.i64 s)).setCell { block := g, off := i * 5 + 1 } (Value.int IntKind.i64 c)).setCell { block := g, off := i * 5 + 2 } (Value.int IntKind.i64 f)).setCell { block := g, off := i * 5 + 3 } (Value.bool p)).setCell { block := g, off := i * 5 + 4 } (Value.bool q)) = W9 at *
        have h9 := HP.out
        have hlen : l.length = (l.set i ⟨s, c, f, p, q⟩).length := by rw [List.length_set]
        have HLEN := Lib.hid hlen
        rw [hlen] at h9
        have HR9 := Lib.hid (ARow.ofOwn' h9)
        clear h9 hlen hfz hfz1 hfz2 hfz3 hfz4
        go_ret2
        exact ⟨_, c2, by rw [HVV1.out, HVV2.out, HV.out, ← HLEN.out]; rfl, by rw [HVV1.out, HV.out]; exact HR9.out.mono (Nat.le_succ _), HBP.out⟩
      | false =>
        obtain ⟨hil, hv⟩ := HN.out i HPL.out hf
        have HV := Lib.hid hv
        clear hv hf HF HN HPL
        go_wp2_with fail
        have HI2 := Lib.hid (insert_any ⟨s, c, f, p, q⟩ hl i hil (w.heap.size + 1) b2 c2 w5.heap.size _ (HO.out.alloc (Obj.cells #[Value.int IntKind.i64 s, Value.int IntKind.i64 c, Value.int IntKind.i64 f, Value.bool p, Value.bool q] 30)) (by have := HPB.out.hi; simp; omega) (Blk.new w5 s c f p q) (Shp.new w5 s c f p q) (fun x hx => by have := (HO.out.lt x hx).2; omega))
        have HB2 := Lib.hid (HB.out.alloc HB.out.size (Obj.cells #[Value.int IntKind.i64 s, Value.int IntKind.i64 c, Value.int IntKind.i64 f, Value.bool p, Value.bool q] 30))
        refine HI2.out.mono ?_
        rintro e w9 ⟨a9, c9, rfl, ho9, hb9⟩
        have HO9 := Lib.hid ho9
        have HB9 := Lib.hid (HB2.out.trans (hb9.mono (Nat.le_succ _)))
        clear ho9 hb9 HI2
        have hlen : (insAt l i ⟨s, c, f, p, q⟩).length = l.length + 1 := by
          simp [insAt]
          omega
        have HLEN := Lib.hid hlen
        have h9 := HO9.out
        rw [← hlen] at h9
        have HR9 := Lib.hid (ARow.ofOwn' h9)
        clear h9 hlen
        go_wp2_with fail
        go_ret2
        exact ⟨a9, c9, by rw [HVV1.out, HVV2.out, HV.out, HLEN.out]; rfl, by rw [HVV1.out, HV.out]; exact HR9.out.mono (Nat.le_succ _), HB9.out⟩
end Go.Proofs.Ytodonnagmgbliaa
