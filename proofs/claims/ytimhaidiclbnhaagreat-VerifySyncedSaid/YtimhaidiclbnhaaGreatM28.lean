/- Layer 46, shared texts of this seat, part 28. -/
import Derived.Test.YtimhaidiclbnhaaGreatM27
/- Writing, truncating and punching: the program's answer. -/
set_option linter.unusedSimpArgs false
set_option linter.unusedVariables false
set_option maxRecDepth 100000
namespace Go.Proofs.YtimhaidiclbnhaaGreat.Con
open Go.ChangeShapes Go.WideShapes Go.ChangeAt Go.RowKit

def truncV (s : ByteArray) (n : Int) : ByteArray × Int := if longB s = true then (s, 1) else if badB n = true then (s, 2) else (sizedS s n.toNat, 0)
def writeV (s : ByteArray) (off : Int) (b : ByteArray) : ByteArray × Int :=
  if longB s = true then (s, 1) else if badB off = true ∨ 128 - off < (b.size : Int) then (s, 2) else if b.size = 0 then (s, 0) else (putS s off.toNat b, 0)
def punchV (s : ByteArray) (off n : Int) : ByteArray × Int :=
  if longB s = true then (s, 1) else if badB off = true ∨ n < 0 then (s, 2) else if min n ((s.size : Int) - off) ≤ 0 then (s, 0) else (putS s off.toNat (sizedS ⟨#[]⟩ (min n ((s.size : Int) - off)).toNat), 0)

set_option maxHeartbeats 2000000 in
theorem trunc_any (s : ByteArray) (n : Int) (w : World) (hs : s.size ≤ maxLen) :
    Calls Tryz.prog 100 #[.string s, .int .i64 n] w (RetW (.tuple #[.string (truncV s n).1, .int .i64 (truncV s n).2]) w) := by
  have HL := Lib.hid (fun w => long_any s w hs)
  have HB := Lib.hid (bad_any n)
  cases hl : longB s with
  | true =>
    rw [hl] at HL
    have HR : Hid (truncV s n = (s, 1)) := by unfold Hid truncV; rw [if_pos hl]
    clear hl
    go_enter Tryz.func100, Tryz.ntmps100
    go_wp2_with (go_at_call 124; refine (HL.out _).mono ?_; rintro e w' ⟨rfl, rfl⟩)
    go_ret2
    rw [HR.out]
    exact ⟨rfl, Below.refl _ _⟩
  | false =>
    rw [hl] at HL
    have hl' : ¬ longB s = true := by rw [hl]; simp
    have hsz : s.size ≤ 128 := by rw [longB_iff] at hl'; omega
    cases hb : badB n with
    | true =>
      rw [hb] at HB
      have HR : Hid (truncV s n = (s, 2)) := by unfold Hid truncV; rw [if_neg hl', if_pos hb]
      clear hl hl' hb
      go_enter Tryz.func100, Tryz.ntmps100
      go_wp2_with (first | (go_at_call 124; refine (HL.out _).mono ?_; rintro e w' ⟨rfl, rfl⟩) | (go_at_call 125; refine (HB.out _).mono ?_; rintro e w' ⟨rfl, rfl⟩))
      go_ret2
      rw [HR.out]
      exact ⟨rfl, Below.refl _ _⟩
    | false =>
      rw [hb] at HB
      have hb' : ¬ badB n = true := by rw [hb]; simp
      have hof : ¬ (n < 0 ∨ 128 < n) := by rw [← badB_iff]; exact hb'
      obtain ⟨m, rfl⟩ := Int.eq_ofNat_of_zero_le (show 0 ≤ n by omega)
      have e2 : ((m : Int)).toNat = m := by omega
      have HR : Hid (truncV s (m : Int) = (sizedS s m, 0)) := by unfold Hid truncV; rw [if_neg hl', if_neg hb', e2]
      have HZ := Lib.hid (fun w => sized_any s m w (by omega) (by omega))
      clear hl hl' hb hb' hof e2
      go_enter Tryz.func100, Tryz.ntmps100
      go_wp2_with (first | (go_at_call 124; refine (HL.out _).mono ?_; rintro e w' ⟨rfl, rfl⟩) | (go_at_call 125; refine (HB.out _).mono ?_; rintro e w' ⟨rfl, rfl⟩) | (go_at_call 129; refine (HZ.out _).mono ?_; rintro e w' ⟨rfl, hbw⟩))
      go_ret2
      rw [HR.out]
      exact ⟨rfl, hbw⟩

set_option maxHeartbeats 4000000 in
theorem write_any (s : ByteArray) (off : Int) (b : ByteArray) (w : World) (hs : s.size ≤ maxLen) (hbm : b.size ≤ maxLen) :
    Calls Tryz.prog 95 #[.string s, .int .i64 off, .string b] w (RetW (.tuple #[.string (writeV s off b).1, .int .i64 (writeV s off b).2]) w) := by
  have HL := Lib.hid (fun w => long_any s w hs)
  have HB := Lib.hid (bad_any off)
  unfold maxLen at hbm
  cases hl : longB s with
  | true =>
    rw [hl] at HL
    have HR : Hid (writeV s off b = (s, 1)) := by unfold Hid writeV; rw [if_pos hl]
    clear hl
    go_enter Tryz.func95, Tryz.ntmps95
    go_wp2_with (go_at_call 124; refine (HL.out _).mono ?_; rintro e w' ⟨rfl, rfl⟩)
    go_ret2
    rw [HR.out]
    exact ⟨rfl, Below.refl _ _⟩
  | false =>
    rw [hl] at HL
    have hl' : ¬ longB s = true := by rw [hl]; simp
    have hsz : s.size ≤ 128 := by rw [longB_iff] at hl'; omega
    cases hb : badB off with
    | true =>
      rw [hb] at HB
      have HR : Hid (writeV s off b = (s, 2)) := by unfold Hid writeV; rw [if_neg hl', if_pos (Or.inl hb)]
      clear hl hl' hb
      go_enter Tryz.func95, Tryz.ntmps95
      go_wp2_with (first | (go_at_call 124; refine (HL.out _).mono ?_; rintro e w' ⟨rfl, rfl⟩) | (go_at_call 125; refine (HB.out _).mono ?_; rintro e w' ⟨rfl, rfl⟩))
      go_ret2
      rw [HR.out]
      exact ⟨rfl, Below.refl _ _⟩
    | false =>
      rw [hb] at HB
      have hb' : ¬ badB off = true := by rw [hb]; simp
      have hof : ¬ (off < 0 ∨ 128 < off) := by rw [← badB_iff]; exact hb'
      obtain ⟨o, rfl⟩ := Int.eq_ofNat_of_zero_le (show 0 ≤ off by omega)
      have ho : o ≤ 128 := by omega
      by_cases hbig : 128 - (o : Int) < (b.size : Int)
      · have HR : Hid (writeV s (o : Int) b = (s, 2)) := by unfold Hid writeV; rw [if_neg hl', if_pos (Or.inr hbig)]
        clear hl hl' hb hb' hof
        go_enter Tryz.func95, Tryz.ntmps95
        go_wp2_with (first | (go_at_call 124; refine (HL.out _).mono ?_; rintro e w' ⟨rfl, rfl⟩) | (go_at_call 125; refine (HB.out _).mono ?_; rintro e w' ⟨rfl, rfl⟩))
        go_ret2
        rw [HR.out]
        exact ⟨rfl, Below.refl _ _⟩
      · have hbig2 : (b.size : Int) ≤ 128 - (o : Int) := by omega
        have hno : ¬ (badB (o : Int) = true ∨ 128 - (o : Int) < (b.size : Int)) := fun h => h.elim hb' hbig
        by_cases hz : b.size = 0
        · have HR : Hid (writeV s (o : Int) b = (s, 0)) := by unfold Hid writeV; rw [if_neg hl', if_neg hno, if_pos hz]
          have hbe : b = ⟨#[]⟩ := ByteArray.ext (Array.eq_empty_of_size_eq_zero hz)
          subst hbe
          clear hl hl' hb hb' hof hno
          go_enter Tryz.func95, Tryz.ntmps95
          go_wp2_with (first | (go_at_call 124; refine (HL.out _).mono ?_; rintro e w' ⟨rfl, rfl⟩) | (go_at_call 125; refine (HB.out _).mono ?_; rintro e w' ⟨rfl, rfl⟩))
          go_ret2
          rw [HR.out]
          exact ⟨rfl, Below.refl _ _⟩
        · have e1 : ((o : Int)).toNat = o := by omega
          have HR : Hid (writeV s (o : Int) b = (putS s o b, 0)) := by unfold Hid writeV; rw [if_neg hl', if_neg hno, if_neg hz, e1]
          have HZ := Lib.hid (fun w => put_any s o b w (by omega) (by omega) (by omega))
          have hne : b.toList.isEmpty = false := by
            have : b.toList.length = b.size := by rw [ByteArray.toList_eq]; exact Array.length_toList
            cases h : b.toList with
            | nil => rw [h] at this; simp at this; omega
            | cons x r => rfl
          clear hl hl' hb hb' hof hno e1 hz
          go_enter Tryz.func95, Tryz.ntmps95
          go_wp2_with (first | (go_at_call 124; refine (HL.out _).mono ?_; rintro e w' ⟨rfl, rfl⟩) | (go_at_call 125; refine (HB.out _).mono ?_; rintro e w' ⟨rfl, rfl⟩) | (go_at_call 126; refine (HZ.out _).mono ?_; rintro e w' ⟨rfl, hbw⟩))
          go_ret2
          rw [HR.out]
          exact ⟨rfl, hbw⟩
end Go.Proofs.YtimhaidiclbnhaaGreat.Con
/- Punching: the program's answer. -/
set_option linter.unusedSimpArgs false
set_option linter.unusedVariables false
set_option maxRecDepth 100000
namespace Go.Proofs.YtimhaidiclbnhaaGreat.Con
open Go.ChangeShapes Go.WideShapes Go.ChangeAt Go.RowKit

set_option maxHeartbeats 4000000 in
theorem punch_any (s : ByteArray) (off n : Int) (w : World) (hs : s.size ≤ maxLen) :
    Calls Tryz.prog 102 #[.string s, .int .i64 off, .int .i64 n] w (RetW (.tuple #[.string (punchV s off n).1, .int .i64 (punchV s off n).2]) w) := by
  have HL := Lib.hid (fun w => long_any s w hs)
  have HB := Lib.hid (bad_any off)
  cases hl : longB s with
  | true =>
    rw [hl] at HL
    have HR : Hid (punchV s off n = (s, 1)) := by unfold Hid punchV; rw [if_pos hl]
    clear hl
    go_enter Tryz.func102, Tryz.ntmps102
    go_wp2_with (go_at_call 124; refine (HL.out _).mono ?_; rintro e w' ⟨rfl, rfl⟩)
    go_ret2
    rw [HR.out]
    exact ⟨rfl, Below.refl _ _⟩
  | false =>
    rw [hl] at HL
    have hl' : ¬ longB s = true := by rw [hl]; simp
    have hsz : s.size ≤ 128 := by rw [longB_iff] at hl'; omega
    cases hb : badB off with
    | true =>
      rw [hb] at HB
      have HR : Hid (punchV s off n = (s, 2)) := by unfold Hid punchV; rw [if_neg hl', if_pos (Or.inl hb)]
      clear hl hl' hb
      go_enter Tryz.func102, Tryz.ntmps102
      go_wp2_with (first | (go_at_call 124; refine (HL.out _).mono ?_; rintro e w' ⟨rfl, rfl⟩) | (go_at_call 125; refine (HB.out _).mono ?_; rintro e w' ⟨rfl, rfl⟩))
      go_ret2
      rw [HR.out]
      exact ⟨rfl, Below.refl _ _⟩
    | false =>
      rw [hb] at HB
      have hb' : ¬ badB off = true := by rw [hb]; simp
      have hof : ¬ (off < 0 ∨ 128 < off) := by rw [← badB_iff]; exact hb'
      obtain ⟨o, rfl⟩ := Int.eq_ofNat_of_zero_le (show 0 ≤ off by omega)
      have ho : o ≤ 128 := by omega
      by_cases hn : n < 0
      · have HR : Hid (punchV s (o : Int) n = (s, 2)) := by unfold Hid punchV; rw [if_neg hl', if_pos (Or.inr hn)]
        clear hl hl' hb hb' hof
        go_enter Tryz.func102, Tryz.ntmps102
        go_wp2_with (first | (go_at_call 124; refine (HL.out _).mono ?_; rintro e w' ⟨rfl, rfl⟩) | (go_at_call 125; refine (HB.out _).mono ?_; rintro e w' ⟨rfl, rfl⟩))
        go_ret2
        rw [HR.out]
        exact ⟨rfl, Below.refl _ _⟩
      · have hno : ¬ (badB (o : Int) = true ∨ n < 0) := fun h => h.elim hb' hn
        have hn2 : 0 ≤ n := by omega
        by_cases hz : min n ((s.size : Int) - (o : Int)) ≤ 0
        · have HR : Hid (punchV s (o : Int) n = (s, 0)) := by unfold Hid punchV; rw [if_neg hl', if_neg hno, if_pos hz]
          clear hl hl' hb hb' hof hno hn
          go_enter Tryz.func102, Tryz.ntmps102
          go_wp2_with (first | (go_at_call 124; refine (HL.out _).mono ?_; rintro e w' ⟨rfl, rfl⟩) | (go_at_call 125; refine (HB.out _).mono ?_; rintro e w' ⟨rfl, rfl⟩))
          go_ret2
          rw [HR.out]
          exact ⟨rfl, Below.refl _ _⟩
        · have e1 : ((o : Int)).toNat = o := by omega
          obtain ⟨r, hr⟩ := Int.eq_ofNat_of_zero_le (show 0 ≤ min n ((s.size : Int) - (o : Int)) by omega)
          have hr2 : (min n ((s.size : Int) - (o : Int))).toNat = r := by omega
          have HR : Hid (punchV s (o : Int) n = (putS s o (sizedS ⟨#[]⟩ r), 0)) := by unfold Hid punchV; rw [if_neg hl', if_neg hno, if_neg hz, e1, hr2]
          have hrl : (r : Int) ≤ 128 := by omega
          have hrp : (0 : Int) < (r : Int) := by omega
          have hz0 : (⟨#[]⟩ : ByteArray).size = 0 := rfl
          have hzs : (sizedS ⟨#[]⟩ r).size = r := sizedS_size _ _
          have HY := Lib.hid (fun w => sized_any ⟨#[]⟩ r w (by rw [hz0]; omega) (by omega))
          have HZ := Lib.hid (fun w => put_any s o (sizedS ⟨#[]⟩ r) w (by omega) (by omega) (by omega))
          generalize sizedS ⟨#[]⟩ r = zz at *
          clear hl hl' hb hb' hof hno hn e1 hz hr2 hz0 hzs
          go_enter Tryz.func102, Tryz.ntmps102
          go_wp2_with (first | (go_at_call 124; refine (HL.out _).mono ?_; rintro e w' ⟨rfl, rfl⟩) | (go_at_call 125; refine (HB.out _).mono ?_; rintro e w' ⟨rfl, rfl⟩) | (go_at_call 129; refine (HY.out _).mono ?_; rintro e w1 ⟨rfl, hb1⟩) | (go_at_call 126; refine (HZ.out _).mono ?_; rintro e w2 ⟨rfl, hb2⟩))
          go_ret2
          rw [HR.out]
          exact ⟨rfl, hb1.trans (hb2.mono hb1.size)⟩

theorem byte_any (s : ByteArray) (i : Int) (w : World) (hs : s.size ≤ maxLen) : Calls Tryz.prog 28 #[.string s, .int .i64 i] w fun e w' => e = .returned (.int .u8 (if i < 0 then 0 else ((s.data.toList.getD i.toNat 0).toNat : Int))) ∧ w = w' := by
  unfold maxLen at hs
  by_cases h0 : i < 0
  · rw [if_pos h0]
    go_enter Tryz.func28, Tryz.ntmps28
    go_wp2_with fail
    go_ret
    exact ⟨rfl, rfl⟩
  · rw [if_neg h0]
    obtain ⟨k, rfl⟩ := Int.eq_ofNat_of_zero_le (show 0 ≤ i by omega)
    have e1 : ((k : Int)).toNat = k := by omega
    rw [e1]
    have hl : s.data.toList.length = s.size := Array.length_toList
    by_cases h1 : k < s.size
    · have he : Hid ((s[k].toNat : Int) = ((s.data.toList.getD k 0).toNat : Int)) := by
        unfold Hid
        simp [List.getD, List.getElem?_eq_getElem (show k < s.data.toList.length by omega), ByteArray.getElem_eq_getElem_data]
      generalize ((s.data.toList.getD k 0).toNat : Int) = v at *
      clear hl e1
      go_enter Tryz.func28, Tryz.ntmps28
      go_wp2_with fail
      go_ret
      exact ⟨by rw [← he.out]; rfl, rfl⟩
    · have he : (s.data.toList.getD k 0) = 0 := by simp [List.getD, List.getElem?_eq_none (show s.data.toList.length ≤ k by omega)]
      rw [he]
      have h2 : (s.size : Int) ≤ (k : Int) := by omega
      clear hl e1 he
      go_enter Tryz.func28, Tryz.ntmps28
      go_wp2_with fail
      go_ret
      exact ⟨rfl, rfl⟩
end Go.Proofs.YtimhaidiclbnhaaGreat.Con
/- Layer 46: the plans of truncate. -/
set_option linter.unusedSimpArgs false
set_option linter.unusedVariables false
set_option maxRecDepth 100000
namespace Go.Proofs.YtimhaidiclbnhaaGreat.Ver
open Go.ChangeShapes Go.WideShapes Go.ChangeAt Go.RowKit
open Des (Dv De Dn DIn DBlk DAns Vi At RowOf ints DSz)
open Ara (Ar ARow)
open Con (StrRow)

theorem lk_zero {s : St} {p fd m : Int} (h : lkE s p fd m = 0) (hr : Des.Rt s.d) : Des.numE s.d p fd = 0 ∧ andV (Des.lookV s.d p fd).fl m = m ∧ Des.rightD (Des.lookV s.d p fd) = true ∧ ∃ f : Nat, (Des.lookV s.d p fd).fi = (f : Int) ∧ f < s.fs.length := by
  unfold lkE at h
  by_cases h1 : Des.numE s.d p fd = 0
  · rw [if_neg (by simp [h1])] at h
    by_cases h2 : (s.fs.length : Int) ≤ (Des.lookV s.d p fd).fi
    · rw [if_pos h2] at h; omega
    · rw [if_neg h2] at h
      by_cases h3 : andV (Des.lookV s.d p fd).fl m = m
      · obtain ⟨k, j, q, e1, e2, hk, hj, hq, hn, _, hpos⟩ := Des.num_ref h1
        have hl : Des.lookV s.d p fd = s.d.o.getD q Dn.zero := by unfold Des.lookV; rw [if_pos h1, hn, Int.toNat_natCast]
        have hrd := hr.pos q hq hpos
        rw [← hl] at hrd
        have : 0 ≤ (Des.lookV s.d p fd).fi := by
          have h4 := hrd
          unfold Des.rightD Des.fixB at h4
          rw [Bool.and_eq_true] at h4
          exact (of_decide_eq_true h4.1).1
        exact ⟨h1, h3, hrd, (Des.lookV s.d p fd).fi.toNat, by omega, by omega⟩
      · rw [if_pos h3] at h; omega
  · rw [if_pos h1] at h; exact absurd h h1
def truncateR (s : St) (p : Int) (o : Opr) : Res × St :=
  if lkE s p o.fd 2 ≠ 0 then (badR (lkE s p o.fd 2), s) else if (Con.truncV (s.fs.getD (Des.lookV s.d p o.fd).fi.toNat ⟨#[]⟩) o.off).2 ≠ 0 then (badR (Con.truncV (s.fs.getD (Des.lookV s.d p o.fd).fi.toNat ⟨#[]⟩) o.off).2, s) else (⟨0, 0, ⟨#[]⟩⟩, chS s (Des.lookV s.d p o.fd).fi.toNat (Con.truncV (s.fs.getD (Des.lookV s.d p o.fd).fi.toNat ⟨#[]⟩) o.off).1)
set_option maxHeartbeats 8000000 in
theorem truncate_any (B : Nat) (l : Ly) (s : St) (p : Int) (o : Opr) (x : Ev) (W : World) (h : Mm B W l s) (hr : Des.Rt s.d) (hn : s.fs.length ≤ 1000) (hsz : ∀ y, y ∈ s.fs → y.size ≤ 1000) (hfh : s.h.length = s.fs.length) (hl : ∀ i, i < s.h.length → (s.h.getD i ([], 0)).1.length ≤ 10000) :
    Calls Tryz.prog 70 #[stepV l.M p o x] W (PlanP B W l s (truncateR s p o).1 (truncateR s p o).2) := by
  have HLK : Hid (∀ W', Below W.heap.size W W' → Calls Tryz.prog 91 #[stepV l.M p o x, .int .i64 2] W' (RetW (.tuple #[.int .i64 (Des.numV s.d p o.fd), .agg #[.int .i64 (Des.lookV s.d p o.fd).fi, .int .i64 (Des.lookV s.d p o.fd).fl, .int .i64 (Des.lookV s.d p o.fd).f, .int .i64 (Des.lookV s.d p o.fd).cu, .int .i64 (Des.lookV s.d p o.fd).rf], .int .i64 (lkE s p o.fd 2)]) W')) := Lib.hid fun W' hb => lookup_any' B l s p o x 2 W' (h.below hb) hr hn
  have HM := Lib.hid h
  have HCA : Hid (∀ (sd : ByteArray) W', sd.size ≤ 1000 → Calls Tryz.prog 100 #[.string sd, .int .i64 o.off] W' (RetW (.tuple #[.string (Con.truncV sd o.off).1, .int .i64 (Con.truncV sd o.off).2]) W')) := Lib.hid fun sd W' hs => Con.trunc_any sd o.off W' (by unfold maxLen; omega)
  have HLZ : Hid (lkE s p o.fd 2 = 0 → ∃ f : Nat, (Des.lookV s.d p o.fd).fi = (f : Int) ∧ f < s.fs.length) := Lib.hid fun h0 => (lk_zero h0 hr).2.2.2
  have HE : Hid (truncateR s p o = if lkE s p o.fd 2 ≠ 0 then (badR (lkE s p o.fd 2), s) else if (Con.truncV (s.fs.getD (Des.lookV s.d p o.fd).fi.toNat ⟨#[]⟩) o.off).2 ≠ 0 then (badR (Con.truncV (s.fs.getD (Des.lookV s.d p o.fd).fi.toNat ⟨#[]⟩) o.off).2, s) else (⟨0, 0, ⟨#[]⟩⟩, chS s (Des.lookV s.d p o.fd).fi.toNat (Con.truncV (s.fs.getD (Des.lookV s.d p o.fd).fi.toNat ⟨#[]⟩) o.off).1)) := Lib.hid rfl
  have HX := Lib.hid (Bx2.start W (stepC l.M p o x) [.int .i64 0, .int .i64 0, .string ⟨#[]⟩, .nilFunc] 122 114)
  have hmf : ∀ (fn : Fn) (first cap : Array Value) (w : World), (Instr.makeFunc fn first cap).run Tryz.prog w = .ok (.func fn first cap) w := fun _ _ _ _ => rfl
  unfold stepV at HLK ⊢
  obtain ⟨cs, hcs⟩ : ∃ cs, cs = stepC l.M p o x := ⟨_, rfl⟩
  have HCS := Lib.hid hcs
  rw [← hcs] at HX HLK ⊢
  clear hcs h
  generalize truncateR s p o = PR at *
  generalize lkE s p o.fd 2 = le at *
  generalize Des.numV s.d p o.fd = nv at *
  generalize Des.lookV s.d p o.fd = D at *
  go_enter Tryz.func70, Tryz.ntmps70
  go_upto_region 1 with (fail)
  generalize World.alloc _ (Obj.cells #[.int .i64 0, .int .i64 0, .string ⟨#[]⟩, .nilFunc] 114) = W0 at *
  have hmf' := Lib.hid hmf
  clear hmf
  go_wp2_with (with_reducible refine Des.hold_load 122 rfl ?_)
  refine Des.load_ato 0 HX.out.t.r Tryz.underlying122 rfl (by rw [HCS.out]; exact size122) rfl rfl rfl ?_
  go_wp2_with fail
  refine (HLK.out _ HX.out.bel).mono ?_
  rintro e w1 ⟨rfl, hb⟩
  replace HX := Lib.hid (HX.out.below hb)
  clear hb HLK
  have HR1 : Hid (W.heap.size + 1 < w1.heap.size) := Lib.hid HX.out.r.hi
  have HK := Lib.hid (At.new w1 [.int .i64 D.fi, .int .i64 D.fl, .int .i64 D.f, .int .i64 D.cu, .int .i64 D.rf] 126)
  have HBK : Hid (Below w1.heap.size w1 (w1.alloc (.cells ([.int .i64 D.fi, .int .i64 D.fl, .int .i64 D.f, .int .i64 D.cu, .int .i64 D.rf] : List Value).toArray 126))) := Lib.hid ((Below.refl _ _).alloc (Nat.le_refl _) _)
  by_cases hz : le = 0
  · subst hz
    have HE2 := Lib.hid (HE.out.trans (if_neg (by simp)))
    clear HE
    have HE := HE2
    clear HE2
    obtain ⟨f, hf, hfn⟩ := HLZ.out rfl
    rw [hf, Int.toNat_natCast] at HE
    have HFI : Hid (D.fi = (f : Int)) := Lib.hid hf
    have hsd : (s.fs.getD f ⟨#[]⟩).size ≤ 1000 := hsz _ (by rw [List.getD_eq_getElem?_getD, List.getElem?_eq_getElem hfn]; exact List.getElem_mem hfn)
    have HFC := Lib.hid (fs_at s.fs f hfn)
    generalize s.fs.getD f ⟨#[]⟩ = sd at *
    have HCB := Lib.hid (fun W' => HCA.out sd W' hsd)
    clear HCA HLZ hf hsd
    obtain ⟨TD, TE, hte⟩ : ∃ TD TE, Con.truncV sd o.off = (TD, TE) := ⟨_, _, rfl⟩
    rw [hte] at HE HCB
    simp only at HE HCB
    clear hte
    have hfI : (f : Int) < (s.fs.length : Int) := by omega
    have hnI : (s.fs.length : Int) ≤ 1000 := by omega
    go_upto_region 4 with (fail)
    generalize w1.alloc (Obj.cells #[.int .i64 D.fi, .int .i64 D.fl, .int .i64 D.f, .int .i64 D.cu, .int .i64 D.rf] 126) = W1 at *
    replace HX := Lib.hid (HX.out.below HBK.out)
    generalize w1.heap.size = K at *
    have HM1 := Lib.hid (HM.out.below HX.out.bel)
    have HKN : Hid (W.heap.size + 1 < K) := HR1
    have HKh : Hid (K < W1.heap.size) := Lib.hid HK.out.hi
    go_cut [5, 6] (fun s5 s6 wx => ∃ O, s5 = .int .i64 TE ∧ s6 = .pointer (some ⟨O, 0, none⟩) ∧ Hid (Nb W1 wx O [.string TD]))
    case first =>
      have HX0 := HX
      replace HX := Lib.hid (HX.out.below (Below.refl _ _).drew)
      have hT : W.heap.size < W1.heap.size := HX0.out.t.hi
      have hM : l.M < W1.heap.size := (HM.out.below HX0.out.bel).m.hi
      have e1 : ¬ W1.heap.size = W.heap.size := by omega
      have e2 : ¬ W.heap.size = W1.heap.size := by omega
      have e3 : ¬ W1.heap.size = l.M := by omega
      have e4 : ¬ l.M = W1.heap.size := by omega
      have hm1 : l.F < W1.heap.size := HM1.out.hi _ (by simp [vs])
      have f1a : ¬ W1.heap.size = l.F := by omega
      have f1b : ¬ l.F = W1.heap.size := by omega
      have hm2 : K < W1.heap.size := HKh.out
      have f2a : ¬ W1.heap.size = K := by omega
      have f2b : ¬ K = W1.heap.size := by omega
      have yt0 := HX0.out.t.cell 0 (.pointer (some ⟨l.M, 0, none⟩)) (by rw [HCS.out]; rfl); have yt6 := HX0.out.t.cell 6 (.int .i64 o.off) (by rw [HCS.out]; rfl); have ymF := (HM.out.below HX0.out.bel).cF; have ya := (HM.out.below HX0.out.bel).f.cell f (.string sd) HFC.out; have yd := HK.out.cell 0 (.int .i64 (f : Int)) (by rw [← HFI.out]; rfl)
      have t0 := HX.out.t.cell 0 (.pointer (some ⟨l.M, 0, none⟩)) (by rw [HCS.out]; rfl); have t6 := HX.out.t.cell 6 (.int .i64 o.off) (by rw [HCS.out]; rfl); have mF := (HM.out.below HX.out.bel).cF; have a := (HM.out.below HX.out.bel).f.cell f (.string sd) HFC.out; have d := (HK.out.below ((Below.refl W1.heap.size W1).drew) HK.out.hi).cell 0 (.int .i64 (f : Int)) (by rw [← HFI.out]; rfl)
      go_region_held3 (fun w' => w'.cell? ⟨W.heap.size, 0, none⟩ = some (.pointer (some ⟨l.M, 0, none⟩)) ∧ w'.cell? ⟨W.heap.size, 6, none⟩ = some (.int .i64 o.off) ∧ w'.cell? ⟨l.M, 21, none⟩ = some (.slice (some ⟨l.F, 0, none⟩) s.fs.length s.fs.length) ∧ w'.cell? ⟨l.F, f, none⟩ = some (.string sd) ∧ w'.cell? ⟨K, 0, none⟩ = some (.int .i64 (f : Int))) (go_keep) (first | (go_at_call 100; refine (HCB.out _).mono ?_; rintro e w2 ⟨rfl, hb⟩; (first | (have HA := Lib.hid hb; have HKB := Lib.hid (HK.out.below ((Below.refl W1.heap.size W1).drew.trans hb) HK.out.hi); replace HX := Lib.hid (HX.out.below hb)) | (have HB := Lib.hid hb; have HKB := Lib.hid (HK.out.below (((Below.refl W1.heap.size W1).alloc (Nat.le_refl _) _).drew.trans (hb.mono (by show W1.heap.size ≤ (W1.alloc _).heap.size; rw [Des.alloc_size]; omega))) HK.out.hi); obtain ⟨_, f0, fh⟩ := At.one (((At.new W1 [.string ⟨#[]⟩] 9).drew).below hb (by show W1.heap.size < (W1.alloc _).heap.size; rw [Des.alloc_size]; omega)); replace HX := Lib.hid ((HX.out.below ((Below.refl _ _).alloc (Nat.le_refl _) _)).below hb))); clear hb t0 t6 mF a d; have t0 := HX.out.t.cell 0 (.pointer (some ⟨l.M, 0, none⟩)) (by rw [HCS.out]; rfl); have t6 := HX.out.t.cell 6 (.int .i64 o.off) (by rw [HCS.out]; rfl); have mF := (HM.out.below HX.out.bel).cF; have a := (HM.out.below HX.out.bel).f.cell f (.string sd) HFC.out; have d := (HKB.out).cell 0 (.int .i64 (f : Int)) (by rw [← HFI.out]; rfl)))
      all_goals
        go_wp2_with fail
        go_meet
        first | exact ⟨_, rfl, rfl, Lib.hid (Nb.after ((Below.refl W1.heap.size W1).drew.trans HA.out) [.string TD] 9)⟩ | exact ⟨_, rfl, rfl, Lib.hid (Nb.before (T := 9) (zs := [.string ⟨#[]⟩]) ((Below.refl (W1.alloc _).heap.size (W1.alloc _)).drew.trans HB.out) [.string TD] rfl)⟩
    case rest =>
    obtain ⟨O, rfl, rfl, HO⟩ := hcut
    replace HX := Lib.hid (HX.out.below HO.out.bel)
    replace HK := Lib.hid (HK.out.below HO.out.bel HK.out.hi)
    clear HCB
    by_cases hu : TE = 0
    · subst hu
      obtain ⟨PR1, PR2⟩ := PR
      obtain ⟨rfl, rfl⟩ : PR1 = _ ∧ PR2 = _ := by have := HE.out.trans (if_neg (by simp)); exact ⟨congrArg Prod.fst this, congrArg Prod.snd this⟩
      clear HE
      replace hmf := hmf'.out
      obtain ⟨_, ⟨r0, r1, r2, r3⟩, rh⟩ := At.four HX.out.r
      obtain ⟨rc0, rc1, rc2, rc3⟩ := (At.four HX.out.r).1
      go_wp2_with fail
      generalize hwB : (((wc.setCell ⟨W.heap.size + 1, 0, none⟩ (.int .i64 0)).setCell ⟨W.heap.size + 1, 1, none⟩ (.int .i64 0)).setCell ⟨W.heap.size + 1, 2, none⟩ (.string ⟨#[]⟩)).setCell ⟨W.heap.size + 1, 3, none⟩ (.func (.func 101) #[] #[.pointer (some ⟨W.heap.size, 0, none⟩), .pointer (some ⟨K, 0, none⟩), .pointer (some ⟨O, 0, none⟩)]) = w9 at *
      have HP : Bx2 W w9 W.heap.size (W.heap.size + 1) cs [.int .i64 0, .int .i64 0, .string ⟨#[]⟩, .func (.func 101) #[] #[.pointer (some ⟨W.heap.size, 0, none⟩), .pointer (some ⟨K, 0, none⟩), .pointer (some ⟨O, 0, none⟩)]] := by rw [← hwB]; exact HX.out.putR [.int .i64 0, .int .i64 0, .string ⟨#[]⟩, .func (.func 101) #[] #[.pointer (some ⟨W.heap.size, 0, none⟩), .pointer (some ⟨K, 0, none⟩), .pointer (some ⟨O, 0, none⟩)]] rfl
      skip
      have HAK : Hid (At w9 K (dnL D)) := Lib.hid (by rw [← hwB]; exact HK.out.apart (by have := HKN.out; omega) 0 [.int .i64 0, .int .i64 0, .string ⟨#[]⟩, .func (.func 101) #[] #[.pointer (some ⟨W.heap.size, 0, none⟩), .pointer (some ⟨K, 0, none⟩), .pointer (some ⟨O, 0, none⟩)]])
      have HAO : Hid (At w9 O [.string TD]) := Lib.hid (by rw [← hwB]; exact HO.out.at'.apart (by have := HO.out.lo; have := HKh.out; have := HKN.out; omega) 0 [.int .i64 0, .int .i64 0, .string ⟨#[]⟩, .func (.func 101) #[] #[.pointer (some ⟨W.heap.size, 0, none⟩), .pointer (some ⟨K, 0, none⟩), .pointer (some ⟨O, 0, none⟩)]])
      clear r0 r1 r2 r3 rc0 rc1 rc2 rc3
      obtain ⟨⟨q0, q1, q2, q3⟩, _, _⟩ := At.four HP.r
      exact bodyPost_ret (v := .agg #[.int .i64 0, .int .i64 0, .string ⟨#[]⟩, .func (.func 101) #[] #[.pointer (some ⟨W.heap.size, 0, none⟩), .pointer (some ⟨K, 0, none⟩), .pointer (some ⟨O, 0, none⟩)]]) (by simp [results, Tryz.results70, go_sem, q0, q1, q2, q3]) rfl ⟨_, rfl, HP.bel, Or.inr ⟨101, _, rfl, fun _ _ => rfl, fun W2' hf2 => clo101 B l s p o x D f TD W.heap.size K O W2' (hf2.mm HP.bel) hfn (by omega) hn (hl f (by omega)) HFI.out (by rw [← HCS.out]; exact hf2.at HP.t HP.lo) (hf2.at HAK.out (by first | omega | (have := HKN.out; omega) | (have := HO.out.lo; have := HKh.out; have := HKN.out; omega) | (have := HO.out.lo; have := HR1.out; omega) | (have := HN.out.lo; have := HR1.out; omega) | (have := HKN.out; have := HKh.out; omega) | (have := HOl.out; have := HKh.out; have := HKN.out; omega) | (have := HKN.out; have := HR1.out; omega) | (have := HOl.out; omega) | (have := HN.out.lo; have := HOl.out; have := HR1.out; omega) | (have := HKh.out; have := HOl.out; have := HR1.out; omega))) (hf2.at HAO.out (by first | omega | (have := HKN.out; omega) | (have := HO.out.lo; have := HKh.out; have := HKN.out; omega) | (have := HO.out.lo; have := HR1.out; omega) | (have := HN.out.lo; have := HR1.out; omega) | (have := HKN.out; have := HKh.out; omega) | (have := HOl.out; have := HKh.out; have := HKN.out; omega) | (have := HKN.out; have := HR1.out; omega) | (have := HOl.out; omega) | (have := HN.out.lo; have := HOl.out; have := HR1.out; omega) | (have := HKh.out; have := HOl.out; have := HR1.out; omega)))⟩⟩
    · have hu' : (TE == 0) = false := by simpa using hu
      obtain ⟨PR1, PR2⟩ := PR
      obtain ⟨rfl, rfl⟩ : PR1 = _ ∧ PR2 = _ := by have := HE.out.trans (if_pos hu); exact ⟨congrArg Prod.fst this, congrArg Prod.snd this⟩
      clear HE
      go_wp2_with fail
      refine (bad_any TE _).mono ?_
      rintro e w5 ⟨rfl, hb⟩
      replace HX := Lib.hid (HX.out.below hb)
      clear hb
      obtain ⟨_, ⟨r0, r1, r2, r3⟩, rh⟩ := At.four HX.out.r
      obtain ⟨rc0, rc1, rc2, rc3⟩ := (At.four HX.out.r).1
      go_wp2_with fail
      generalize hwB : (((w5.setCell ⟨W.heap.size + 1, 0, none⟩ (.int .i64 TE)).setCell ⟨W.heap.size + 1, 1, none⟩ (.int .i64 0)).setCell ⟨W.heap.size + 1, 2, none⟩ (.string ⟨#[]⟩)).setCell ⟨W.heap.size + 1, 3, none⟩ (.nilFunc) = w9 at *
      have HP : Bx2 W w9 W.heap.size (W.heap.size + 1) cs [.int .i64 TE, .int .i64 0, .string ⟨#[]⟩, .nilFunc] := by rw [← hwB]; exact HX.out.putR [.int .i64 TE, .int .i64 0, .string ⟨#[]⟩, .nilFunc] rfl
      skip
      clear r0 r1 r2 r3 rc0 rc1 rc2 rc3
      obtain ⟨⟨q0, q1, q2, q3⟩, _, _⟩ := At.four HP.r
      exact bodyPost_ret (v := .agg #[.int .i64 TE, .int .i64 0, .string ⟨#[]⟩, .nilFunc]) (by simp [results, Tryz.results70, go_sem, q0, q1, q2, q3]) rfl ⟨_, rfl, HP.bel, Or.inl ⟨rfl, rfl⟩⟩
  · have hz' : (le == 0) = false := by simpa using hz
    obtain ⟨PR1, PR2⟩ := PR
    obtain ⟨rfl, rfl⟩ : PR1 = _ ∧ PR2 = _ := by have := HE.out.trans (if_pos hz); exact ⟨congrArg Prod.fst this, congrArg Prod.snd this⟩
    clear HE
    clear HCA HLZ
    have HX9 := Lib.hid (HX.out.below HBK.out)
    replace HX := HX9
    go_upto_region 2 with (fail)
    generalize w1.alloc (Obj.cells #[.int .i64 D.fi, .int .i64 D.fl, .int .i64 D.f, .int .i64 D.cu, .int .i64 D.rf] 126) = W1 at *
    go_wp2_with fail
    refine (bad_any le _).mono ?_
    rintro e w5 ⟨rfl, hb⟩
    replace HX := Lib.hid (HX.out.below hb)
    clear hb
    obtain ⟨_, ⟨r0, r1, r2, r3⟩, rh⟩ := At.four HX.out.r
    obtain ⟨rc0, rc1, rc2, rc3⟩ := (At.four HX.out.r).1
    go_wp2_with fail
    generalize hwB : (((w5.setCell ⟨W.heap.size + 1, 0, none⟩ (.int .i64 le)).setCell ⟨W.heap.size + 1, 1, none⟩ (.int .i64 0)).setCell ⟨W.heap.size + 1, 2, none⟩ (.string ⟨#[]⟩)).setCell ⟨W.heap.size + 1, 3, none⟩ (.nilFunc) = w9 at *
    have HP : Bx2 W w9 W.heap.size (W.heap.size + 1) cs [.int .i64 le, .int .i64 0, .string ⟨#[]⟩, .nilFunc] := by rw [← hwB]; exact HX.out.putR [.int .i64 le, .int .i64 0, .string ⟨#[]⟩, .nilFunc] rfl
    skip
    clear r0 r1 r2 r3 rc0 rc1 rc2 rc3
    obtain ⟨⟨q0, q1, q2, q3⟩, _, _⟩ := At.four HP.r
    exact bodyPost_ret (v := .agg #[.int .i64 le, .int .i64 0, .string ⟨#[]⟩, .nilFunc]) (by simp [results, Tryz.results70, go_sem, q0, q1, q2, q3]) rfl ⟨_, rfl, HP.bel, Or.inl ⟨rfl, rfl⟩⟩
end Go.Proofs.YtimhaidiclbnhaaGreat.Ver
