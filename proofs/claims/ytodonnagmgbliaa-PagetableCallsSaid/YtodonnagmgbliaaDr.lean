/- Lists of entries of which some are not right. -/
import Derived.Test.YtodonnagmgbliaaAwk
import Derived.Laws.AppendOwnNone
namespace Go.Proofs.Ytodonnagmgbliaa
open Go.ChangeShapes Go.WideShapes Go.ChangeAt Go.RowKit

set_option maxHeartbeats 8000000 in
theorem drawn_any (w0 w : World) (t : Nat) (a : Option Addr) (len cap : Nat) (h : TP w0 t a len cap w) :
    Calls Try.prog 7 #[.pointer (some ⟨t, 0, none⟩)] w fun e w' => ∃ b c l, e = .returned (.slice b (List.length l) c) ∧ l.length ≤ 8 ∧ ARow w.heap.size b c l w' ∧ Tock t w w' ∧ TP w0 t a len cap w' := by
  have HT := Lib.hid h
  have htl := h.hi
  clear h
  obtain ⟨i0, hi, hz0, hz1, hz2⟩ := info_parts area_info
  go_enter Try.func7, Try.ntmps7
  go_wp2_with fail
  refine (ptes_any _ _ _ _ _ _ HT.out).mono ?_
  rintro e w1 ⟨b, c, l, rfl, _, hl5, hr, hk, tp⟩
  replace HT := Lib.hid tp
  have HK := Lib.hid hk
  clear hk tp
  rcases hr with ⟨rfl, rfl, rfl⟩ | ⟨g, rfl, g1, g2, g3, g4, g5⟩
  · go_wp2_with (at_builtin; refine wpList_append_own_none rfl _ _ 26 rfl w.heap.size 30 i0 5 Try.underlying26 hi _ 0 [] rfl (World.ownsRow_nil _ _ _ _) rfl ?_)
    go_ret
    exact ⟨none, 0, [], rfl, by simp, Or.inl ⟨rfl, rfl, rfl⟩, HK.out, HT.out⟩
  · have hfc := ARow.flat_cell g5
    have hfl := flat_len l
    have hsz := HK.out.size
    go_wp2_with (at_builtin; refine wpList_append_own _ rfl _ _ 26 rfl w1.heap.size 30 i0 _ 5 32 Try.underlying26 hi hz0 hz1 hz2 rfl (by decide) (.slice none 0 0) 0 [] rfl (World.ownsRow_nil _ _ _ _) ⟨g, 0, none⟩ l.length c (flat l) rfl hfl ?c1 cells_one ?c3 ?c4 (Nat.le_refl _) ?_)
    case c1 =>
      intro j u hj
      rw [Addr.add_lit, Nat.zero_add]
      exact hfc j u hj
    case c3 => unfold maxLen; omega
    case c4 => omega
    intro v2 w2 hown hgrow _
    have hown : w2.ownsRow w1.heap.size 30 5 v2 l.length (flat l) := by simpa using hown
    have hb2 : Below w1.heap.size w1 w2 := (Below.refl _ _).grown hgrow (Nat.le_refl _) (fun x hx => by cases hx)
    replace HT := Lib.hid (HT.out.below hb2 HT.out.hi)
    replace HK := Lib.hid (HK.out.trans (Tock.ofBelow hb2 (Nat.le_refl _)))
    have HO := Lib.hid (own_mono hown hsz)
    clear hown hgrow hb2 hfc hfl g1 g2 g3 g4 g5
    obtain ⟨b3, c3, rfl, _, hr3⟩ := ARow.ofOwn HO.out
    have HR3 := Lib.hid hr3
    clear hr3
    by_cases hl0 : l.length = 0
    · have hl0' : (l.length : Int) = 0 := by omega
      go_wp2_with fail
      go_ret
      exact ⟨b3, c3, l, by rw [hl0]; rfl, hl5, HR3.out, HK.out, HT.out⟩
    · have hl0' : (0 : Int) < (l.length : Int) := by omega
      go_wp2_with fail
      refine (next_tp 8 _ _ _ _ _ _ (by omega) (by omega) HT.out).mono ?_
      rintro e3 w3 ⟨r, _, _, rfl, hk, tp⟩
      replace HT := Lib.hid tp
      replace HK := Lib.hid (HK.out.trans hk.tock)
      replace HO := Lib.hid (hk.own HO.out htl)
      replace HR3 := Lib.hid (HR3.out.tock htl hk.tock)
      clear hk tp
      by_cases hr0 : ¬ r = 0
      · have hr0' : (r == 0) = false := by simpa using hr0
        go_wp2_with fail
        go_ret
        exact ⟨b3, c3, l, rfl, hl5, HR3.out, HK.out, HT.out⟩
      have hr0 : r = 0 := by omega
      subst hr0
      obtain ⟨g, rfl, _, _, hcp, _, _⟩ := HR3.out.at (by omega)
      have hcp' : (l.length : Int) ≤ c3 := by omega
      clear HR3
      go_wp2_with fail
      refine (next_tp l.length _ _ _ _ _ _ (by omega) (by omega) HT.out).mono ?_
      rintro e3 w3 ⟨i, hi0, hi1, rfl, hk, tp⟩
      replace HT := Lib.hid tp
      replace HK := Lib.hid (HK.out.trans hk.tock)
      replace HO := Lib.hid (hk.own HO.out htl)
      clear hk tp
      obtain ⟨i, rfl⟩ := Int.eq_ofNat_of_zero_le hi0
      have hil : i < l.length := by omega
      go_wp2_with fail
      refine (next_tp 3 _ _ _ _ _ _ (by omega) (by omega) HT.out).mono ?_
      rintro e3 w3 ⟨r, hr0, hr1, rfl, hk, tp⟩
      replace HT := Lib.hid tp
      replace HK := Lib.hid (HK.out.trans hk.tock)
      replace HO := Lib.hid (hk.own HO.out htl)
      clear hk tp
      have h4 : r = 0 ∨ r = 1 ∨ r = 2 := by omega
      rcases h4 with hr0 | hr1 | hr2
      · subst hr0
        go_wp2_with fail
        refine (odd_any _ _ _ _ _ _ HT.out).mono ?_
        rintro e5 w5 ⟨z, _, _, rfl, hk, tp⟩
        replace HT := Lib.hid tp
        replace HK := Lib.hid (HK.out.trans hk)
        replace HO := Lib.hid (own_tock HO.out hk htl)
        clear hk tp
        have hcel := own_cel HO.out i hil
        have hfz := HO.out.frozenAt (i * 5 + 2)
        have hset := own_set HO.out i hil 2 (by omega) (.int .i64 z) ⟨(l.getD i Ar.zero).pr, (l.getD i Ar.zero).pa, z, (l.getD i Ar.zero).wr, (l.getD i Ar.zero).ac⟩ rfl
        generalize (l.getD i Ar.zero) = e6 at *
        obtain ⟨es, ec, ef, ep, eb⟩ := e6
        obtain ⟨k0, k1, k2, k3, k4⟩ := hcel
        simp only [Nat.add_zero] at k0 k1 k2 k3 k4 hset
        have hgb := (HO.out.lt g rfl).1
        have HTS := Lib.hid (HT.out.below (Below.setCell (p := ⟨g, i * 5 + 2, none⟩) (Below.refl (t + 1) w5) (by show t + 1 ≤ g; omega) (.int .i64 z)) (Nat.lt_succ_self t))
        have HKS : Hid (Tock t w (w5.setCell ⟨g, i * 5 + 2, none⟩ (.int .i64 z))) := ⟨HK.out.os, HK.out.tape, HK.out.output, by simpa [World.setCell] using HK.out.size, fun k h1 h2 => (heap_setCell_other w5 ⟨g, i * 5 + 2, none⟩ k _ (by show k ≠ g; omega)).trans (HK.out.block k h1 h2)⟩
        have HS := Lib.hid hset
        clear hset HT HK HO
        go_wp2_with fail
        obtain ⟨b7, c7, he7, hl7, hr7⟩ := ARow.ofOwn HS.out
        simp only [Value.slice.injEq] at he7
        obtain ⟨rfl, _, rfl⟩ := he7
        have HR7 := Lib.hid hr7
        have HL7 : Hid (l.length = (l.set i ⟨es, ec, z, ep, eb⟩).length) := by unfold Hid; simp
        clear hr7 hl7 hfz
        go_ret
        exact ⟨_, _, l.set i ⟨es, ec, z, ep, eb⟩, by rw [← HL7.out]; rfl, by rw [← HL7.out]; omega, HR7.out, HKS.out, HTS.out⟩
      · subst hr1
        go_wp2_with fail
        refine (odd_any _ _ _ _ _ _ HT.out).mono ?_
        rintro e5 w5 ⟨z, _, _, rfl, hk, tp⟩
        replace HT := Lib.hid tp
        replace HK := Lib.hid (HK.out.trans hk)
        replace HO := Lib.hid (own_tock HO.out hk htl)
        clear hk tp
        have hcel := own_cel HO.out i hil
        have hfz := HO.out.frozenAt (i * 5 + 1)
        have hset := own_set HO.out i hil 1 (by omega) (.int .i64 z) ⟨(l.getD i Ar.zero).pr, z, (l.getD i Ar.zero).fr, (l.getD i Ar.zero).wr, (l.getD i Ar.zero).ac⟩ rfl
        generalize (l.getD i Ar.zero) = e6 at *
        obtain ⟨es, ec, ef, ep, eb⟩ := e6
        obtain ⟨k0, k1, k2, k3, k4⟩ := hcel
        simp only [Nat.add_zero] at k0 k1 k2 k3 k4 hset
        have hgb := (HO.out.lt g rfl).1
        have HTS := Lib.hid (HT.out.below (Below.setCell (p := ⟨g, i * 5 + 1, none⟩) (Below.refl (t + 1) w5) (by show t + 1 ≤ g; omega) (.int .i64 z)) (Nat.lt_succ_self t))
        have HKS : Hid (Tock t w (w5.setCell ⟨g, i * 5 + 1, none⟩ (.int .i64 z))) := ⟨HK.out.os, HK.out.tape, HK.out.output, by simpa [World.setCell] using HK.out.size, fun k h1 h2 => (heap_setCell_other w5 ⟨g, i * 5 + 1, none⟩ k _ (by show k ≠ g; omega)).trans (HK.out.block k h1 h2)⟩
        have HS := Lib.hid hset
        clear hset HT HK HO
        go_wp2_with fail
        obtain ⟨b7, c7, he7, hl7, hr7⟩ := ARow.ofOwn HS.out
        simp only [Value.slice.injEq] at he7
        obtain ⟨rfl, _, rfl⟩ := he7
        have HR7 := Lib.hid hr7
        have HL7 : Hid (l.length = (l.set i ⟨es, z, ef, ep, eb⟩).length) := by unfold Hid; simp
        clear hr7 hl7 hfz
        go_ret
        exact ⟨_, _, l.set i ⟨es, z, ef, ep, eb⟩, by rw [← HL7.out]; rfl, by rw [← HL7.out]; omega, HR7.out, HKS.out, HTS.out⟩
      · subst hr2
        go_wp2_with fail
        refine (odd_any _ _ _ _ _ _ HT.out).mono ?_
        rintro e5 w5 ⟨z, _, _, rfl, hk, tp⟩
        replace HT := Lib.hid tp
        replace HK := Lib.hid (HK.out.trans hk)
        replace HO := Lib.hid (own_tock HO.out hk htl)
        clear hk tp
        have hcel := own_cel HO.out i hil
        have hfz := HO.out.frozenAt (i * 5)
        have hset := own_set HO.out i hil 0 (by omega) (.int .i64 z) ⟨z, (l.getD i Ar.zero).pa, (l.getD i Ar.zero).fr, (l.getD i Ar.zero).wr, (l.getD i Ar.zero).ac⟩ rfl
        generalize (l.getD i Ar.zero) = e6 at *
        obtain ⟨es, ec, ef, ep, eb⟩ := e6
        obtain ⟨k0, k1, k2, k3, k4⟩ := hcel
        simp only [Nat.add_zero] at k0 k1 k2 k3 k4 hset
        have hgb := (HO.out.lt g rfl).1
        have HTS := Lib.hid (HT.out.below (Below.setCell (p := ⟨g, i * 5, none⟩) (Below.refl (t + 1) w5) (by show t + 1 ≤ g; omega) (.int .i64 z)) (Nat.lt_succ_self t))
        have HKS : Hid (Tock t w (w5.setCell ⟨g, i * 5, none⟩ (.int .i64 z))) := ⟨HK.out.os, HK.out.tape, HK.out.output, by simpa [World.setCell] using HK.out.size, fun k h1 h2 => (heap_setCell_other w5 ⟨g, i * 5, none⟩ k _ (by show k ≠ g; omega)).trans (HK.out.block k h1 h2)⟩
        have HS := Lib.hid hset
        clear hset HT HK HO
        go_wp2_with fail
        obtain ⟨b7, c7, he7, hl7, hr7⟩ := ARow.ofOwn HS.out
        simp only [Value.slice.injEq] at he7
        obtain ⟨rfl, _, rfl⟩ := he7
        have HR7 := Lib.hid hr7
        have HL7 : Hid (l.length = (l.set i ⟨z, ec, ef, ep, eb⟩).length) := by unfold Hid; simp
        clear hr7 hl7 hfz
        go_ret
        exact ⟨_, _, l.set i ⟨z, ec, ef, ep, eb⟩, by rw [← HL7.out]; rfl, by rw [← HL7.out]; omega, HR7.out, HKS.out, HTS.out⟩
end Go.Proofs.Ytodonnagmgbliaa
