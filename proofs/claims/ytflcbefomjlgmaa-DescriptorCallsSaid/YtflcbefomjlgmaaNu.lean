/- process, number; Lookup, the document's too; free. -/
import Derived.Test.YtflcbefomjlgmaaCk
set_option linter.unusedSimpArgs false
set_option linter.unusedVariables false
namespace Go.Proofs.Ytflcbefomjlgmaa
open Go.ChangeShapes Go.WideShapes Go.ChangeAt Go.RowKit

/-- sizes that all walks take -/
structure DSz (x : Dv) : Prop where
  o : x.o.length ≤ 10000
  t : x.t.length ≤ 1000
  e : ∀ y ∈ x.t, y.l.length ≤ 10000
def procV (d : De) (p : Int) : Int := if checkV d = false then 1 else if p < 0 ∨ (d.t.length : Int) ≤ p then 2 else 0
theorem procV_ok {d : De} {p : Int} (h : procV d p = 0) : checkV d = true ∧ 0 ≤ p ∧ p < (d.t.length : Int) := by
  unfold procV at h
  cases hc : checkV d
  · rw [if_pos hc] at h; cases h
  · rw [if_neg (by rw [hc]; simp)] at h
    by_cases hp : p < 0 ∨ (d.t.length : Int) ≤ p
    · rw [if_pos hp] at h; cases h
    · exact ⟨rfl, by omega, by omega⟩
theorem pl_t (x : Dv) : x.pl.t.length = x.t.length := List.length_map _
theorem pl_o (x : Dv) : x.pl.o = x.o := rfl

set_option maxHeartbeats 2000000 in
theorem process_any (x : Dv) (p : Int) (w : World) (h : DIn w x) (hz : DSz x) :
    Calls Try.prog 32 #[dVal x, .int .i64 p] w (RetW (.int .i64 (procV x.pl p)) w) := by
  have HC := Lib.hid (fun W hb => check_any' x W (h.below hb) hz.o hz.t)
  have HV : Hid (procV x.pl p = if checkV x.pl = false then 1 else if p < 0 ∨ (x.t.length : Int) ≤ p then 2 else 0) := by unfold procV; rw [pl_t]; rfl
  clear h hz
  generalize checkV x.pl = cv at *
  generalize procV x.pl p = pv at *
  unfold dVal at HC ⊢
  obtain ⟨oa, oc, o, ta, tc, t⟩ := x
  simp only at HC HV
  go_enter Try.func32, Try.ntmps32
  go_wp2_with fail
  refine (HC.out _ ((Below.refl _ _).alloc (Nat.le_refl _) _)).mono ?_
  rintro e w2 ⟨rfl, hb⟩
  have hp0 : w2.cell? ⟨w.heap.size, 0, none⟩ = some (.slice oa o.length oc) := (hb.cell (p := ⟨w.heap.size, 0, none⟩) (by simp)).trans (by simp)
  have hp1 : w2.cell? ⟨w.heap.size, 1, none⟩ = some (.slice ta t.length tc) := (hb.cell (p := ⟨w.heap.size, 1, none⟩) (by simp)).trans (by simp)
  have HB : Hid (Below w.heap.size w w2) := ((Below.refl _ w).alloc (Nat.le_refl _) _).trans (hb.mono (by simp))
  clear hb HC
  cases cv with
  | false =>
    have HV2 : Hid (pv = 1) := HV.out
    go_wp2_with fail
    go_ret
    exact RetW.mk (by rw [HV2.out]; try rfl) HB.out
  | true =>
    by_cases hp : p < 0 ∨ (t.length : Int) ≤ p
    · have HV2 : Hid (pv = 2) := by have := HV.out; rw [if_neg (by simp), if_pos hp] at this; exact this
      have HP := Lib.hid hp
      clear hp HV
      go_wp2_with fail
      all_goals first | (exfalso; have := HP.out; omega) | (go_ret; exact RetW.mk (by rw [HV2.out]; try rfl) HB.out)
    · have HV2 : Hid (pv = 0) := by have := HV.out; rw [if_neg (by simp), if_neg hp] at this; exact this
      have h1 : 0 ≤ p := by omega
      have h2 : p < (t.length : Int) := by omega
      clear hp HV
      go_wp2_with fail
      go_ret
      exact RetW.mk (by rw [HV2.out]; try rfl) HB.out

def tabAt (d : De) (p : Int) : List Int := d.t.getD p.toNat []
def entAt (d : De) (p f : Int) : Int := (tabAt d p).getD f.toNat 0
def numE (d : De) (p f : Int) : Int := if procV d p ≠ 0 then procV d p else if f < 0 ∨ 16 ≤ f ∨ entAt d p f = 0 then 4 else 0
def numV (d : De) (p f : Int) : Int := if numE d p f = 0 then entAt d p f - 1 else 0
theorem check_tab {d : De} (h : checkV d = true) (i : Nat) (hi : i < d.t.length) : (d.t.getD i []).length = 16 ∧ ∀ j, j < 16 → 0 ≤ (d.t.getD i []).getD j 0 ∧ (d.t.getD i []).getD j 0 ≤ d.o.length := by
  unfold checkV at h
  rw [Bool.and_eq_true, Bool.and_eq_true] at h
  have h1 : tabB d.o.length (d.t.getD i []) = true := by
    rw [getD_get hi]
    exact List.all_eq_true.1 h.1.1 _ (List.getElem_mem hi)
  generalize d.t.getD i [] = l at *
  unfold tabB at h1
  rw [Bool.and_eq_true] at h1
  have h2 := of_decide_eq_true h1.1
  refine ⟨h2, fun j hj => ?_⟩
  have := List.all_eq_true.1 h1.2 (l.getD j 0) (by rw [getD_get (by omega)]; exact List.getElem_mem _)
  exact of_decide_eq_true this
theorem check_len {d : De} (h : checkV d = true) : 1 ≤ d.t.length ∧ d.t.length ≤ 8 ∧ d.o.length ≤ 128 := by
  unfold checkV at h
  rw [Bool.and_eq_true, Bool.and_eq_true] at h
  exact of_decide_eq_true h.1.2

set_option maxHeartbeats 4000000 in
theorem number_any (x : Dv) (p f : Int) (w : World) (h : DIn w x) (hz : DSz x) :
    Calls Try.prog 40 #[dVal x, .int .i64 p, .int .i64 f] w (RetW (.tuple #[.int .i64 (numV x.pl p f), .int .i64 (numE x.pl p f)]) w) := by
  have HC := Lib.hid (fun W hb => process_any x p W (h.below hb) hz)
  have HR := Lib.hid h.rows
  have HOK : Hid (procV x.pl p = 0 → 0 ≤ p ∧ p < (x.t.length : Int) ∧ (tabAt x.pl p).length = 16 ∧ tabAt x.pl p = (x.t.getD p.toNat Tb.nil).l ∧ ∀ j, j < 16 → 0 ≤ (tabAt x.pl p).getD j 0 ∧ (tabAt x.pl p).getD j 0 ≤ x.o.length) := fun hp => by
    obtain ⟨h1, h2, h3⟩ := procV_ok hp
    rw [pl_t] at h3
    have h4 := check_tab h1 p.toNat (by rw [pl_t]; omega)
    exact ⟨h2, h3, h4.1, map_getD x.t p.toNat (by omega), h4.2⟩
  have HE : Hid (numE x.pl p f = if procV x.pl p ≠ 0 then procV x.pl p else if f < 0 ∨ 16 ≤ f ∨ (tabAt x.pl p).getD f.toNat 0 = 0 then 4 else 0) := rfl
  have HN : Hid (numV x.pl p f = if numE x.pl p f = 0 then (tabAt x.pl p).getD f.toNat 0 - 1 else 0) := rfl
  have hol := hz.o
  clear h hz
  generalize procV x.pl p = pv at *
  generalize numE x.pl p f = ne at *
  generalize numV x.pl p f = nv at *
  generalize tabAt x.pl p = T at *
  unfold dVal at HC ⊢
  obtain ⟨oa, oc, o, ta, tc, t⟩ := x
  simp only at HC HR HOK hol
  go_enter Try.func40, Try.ntmps40
  go_wp2_with fail
  refine (HC.out _ ((Below.refl _ _).alloc (Nat.le_refl _) _)).mono ?_
  rintro e w2 ⟨rfl, hb⟩
  have hp1 : w2.cell? ⟨w.heap.size, 1, none⟩ = some (.slice ta t.length tc) := (hb.cell (p := ⟨w.heap.size, 1, none⟩) (by simp)).trans (by simp)
  have HB : Hid (Below w.heap.size w w2) := ((Below.refl _ w).alloc (Nat.le_refl _) _).trans (hb.mono (by simp))
  clear hb HC
  by_cases hpv : pv = 0
  · subst hpv
    obtain ⟨q0, q1, q2, q3, q4⟩ := HOK.out rfl
    obtain ⟨k, rfl⟩ : ∃ k : Nat, p = (k : Int) := ⟨p.toNat, by omega⟩
    rw [Int.toNat_natCast] at q3
    obtain ⟨g, of, rfl, e1, e2, e3, e4⟩ := HR.out w2 HB.out k (by omega)
    rw [if_neg (by simp)] at HE
    have Q2 := Lib.hid q2
    have Q4 := Lib.hid q4
    clear HR HOK q2 q4
    subst q3
    generalize t.getD k Tb.nil = y at *
    obtain ⟨ya, yc, yl⟩ := y
    simp only at HE HN Q2 Q4 e3 e4
    have hyl : (yl.length : Int) = 16 := by rw [Q2.out]; rfl
    by_cases hf : f < 0 ∨ 16 ≤ f
    · have HE2 : Hid (ne = 4) := by have := HE.out; rw [if_pos (by omega)] at this; exact this
      have HN2 : Hid (nv = 0) := by have := HN.out; rw [if_neg (by rw [HE2.out]; decide)] at this; exact this
      have HF := Lib.hid hf
      clear hf e4
      go_wp2_with fail
      all_goals first | (exfalso; have := HF.out; omega) | (go_ret2; exact RetW.mk (by rw [HE2.out, HN2.out]; try rfl) HB.out)
    · obtain ⟨j, rfl⟩ : ∃ j : Nat, f = (j : Int) := ⟨f.toNat, by omega⟩
      rw [Int.toNat_natCast] at HE HN
      obtain ⟨g', of', rfl, c1, c2, c3⟩ := e4 j (by omega)
      obtain ⟨z0, z1⟩ := Q4.out j (by omega)
      have hj1 : (j : Int) < 16 := by omega
      clear e4 hf
      generalize yl.getD j 0 = z at *
      by_cases hzz : z = 0
      · subst hzz
        have HE2 : Hid (ne = 4) := by have := HE.out; rw [if_pos (by omega)] at this; exact this
        have HN2 : Hid (nv = 0) := by have := HN.out; rw [if_neg (by rw [HE2.out]; decide)] at this; exact this
        go_wp2_with fail
        go_ret2
        exact RetW.mk (by rw [HE2.out, HN2.out]; try rfl) HB.out
      · have HE2 : Hid (ne = 0) := by have := HE.out; rw [if_neg (by omega)] at this; exact this
        have HN2 : Hid (nv = z - 1) := by have := HN.out; rw [if_pos HE2.out] at this; exact this
        have hzb : (z == 0) = false := by simpa using hzz
        go_wp2_with fail
        go_ret2
        exact RetW.mk (by rw [HE2.out, HN2.out]; try rfl) HB.out
  · have HE2 : Hid (ne = pv) := by have := HE.out; rw [if_pos hpv] at this; exact this
    have HN2 : Hid (nv = 0) := by have := HN.out; rw [if_neg (by rw [HE2.out]; exact hpv)] at this; exact this
    go_wp2_with fail
    go_ret2
    exact RetW.mk (by rw [HE2.out, HN2.out]; try rfl) HB.out
end Go.Proofs.Ytflcbefomjlgmaa
