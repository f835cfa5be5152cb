/- Check. -/
import Derived.Test.YtflcbefomjlgmaaRf
set_option linter.unusedSimpArgs false
set_option linter.unusedVariables false
namespace Go.Proofs.Ytflcbefomjlgmaa
open Go.ChangeShapes Go.WideShapes Go.ChangeAt Go.RowKit

/-- a description lies at o in block g -/
structure DCel (W : World) (g o : Nat) (a : Dn) : Prop where
  c0 : W.cell? ⟨g, o, none⟩ = some (.int .i64 a.fi)
  c1 : W.cell? ⟨g, o + 1, none⟩ = some (.int .i64 a.fl)
  c2 : W.cell? ⟨g, o + 2, none⟩ = some (.int .i64 a.f)
  c3 : W.cell? ⟨g, o + 3, none⟩ = some (.int .i64 a.cu)
  c4 : W.cell? ⟨g, o + 4, none⟩ = some (.int .i64 a.rf)
theorem DCel.of {W : World} {g o : Nat} {a : Dn} (h : W.rangeAt g o a.cells) : DCel W g o a := by
  refine ⟨?_, ?_, ?_, ?_, ?_⟩
  · have := h 0 _ rfl; rwa [Nat.add_zero] at this
  · exact h 1 _ rfl
  · exact h 2 _ rfl
  · exact h 3 _ rfl
  · exact h 4 _ rfl
theorem DCel.below {W W' : World} {g o B : Nat} {a : Dn} (h : DCel W g o a) (hb : Below B W W') (hg : g < B) : DCel W' g o a :=
  ⟨(hb.cell (p := ⟨g, _, none⟩) hg).trans h.c0, (hb.cell (p := ⟨g, _, none⟩) hg).trans h.c1, (hb.cell (p := ⟨g, _, none⟩) hg).trans h.c2, (hb.cell (p := ⟨g, _, none⟩) hg).trans h.c3, (hb.cell (p := ⟨g, _, none⟩) hg).trans h.c4⟩
theorem DCel.new (W : World) (a : Dn) : DCel (W.alloc (.cells #[.int .i64 a.fi, .int .i64 a.fl, .int .i64 a.f, .int .i64 a.cu, .int .i64 a.rf] 34)) W.heap.size 0 a := by
  refine ⟨?_, ?_, ?_, ?_, ?_⟩ <;> simp

/-- a description is right that n descriptors have -/
def itemB (c : Int) (last : Bool) (a : Dn) : Bool := decide (a.rf = c) && (if c = 0 then decide (a = Dn.zero) && !last else rightD a)
def itemsB (d : De) (n : Nat) : Bool := (List.range n).all (fun i => itemB ((refC d).getD i 0) (decide (i + 1 = d.o.length)) (d.o.getD i Dn.zero))
def checkV (d : De) : Bool := refOK d && decide (1 ≤ d.t.length ∧ d.t.length ≤ 8 ∧ d.o.length ≤ 128) && itemsB d d.o.length
theorem items_succ (d : De) (k : Nat) : itemsB d (k + 1) = (itemsB d k && itemB ((refC d).getD k 0) (decide (k + 1 = d.o.length)) (d.o.getD k Dn.zero)) := by
  unfold itemsB; rw [List.range_succ, List.all_append]; simp
theorem items_false {d : De} {k : Nat} (hk : k < d.o.length) (h : itemB ((refC d).getD k 0) (decide (k + 1 = d.o.length)) (d.o.getD k Dn.zero) = false) : checkV d = false := by
  unfold checkV itemsB
  rw [Bool.and_eq_false_iff]
  exact Or.inr (List.all_eq_false.2 ⟨k, List.mem_range.2 hk, by rw [h]; simp⟩)
theorem refC_bd {d : De} (h : refOK d = true) (k : Nat) (hk : k < d.o.length) : 0 ≤ (refC d).getD k 0 ∧ (refC d).getD k 0 ≤ 16 * d.t.length := by
  have := cnt_bd d.t.flatten d.o.length k hk
  rw [flat_bd h] at this
  unfold refC
  omega
/-- the row of descriptions at each world -/
def DescAt (w : World) (oa : Option Addr) (oc : Nat) (o : List Dn) : Prop :=
  ∀ W, Below w.heap.size w W → ∀ k, k < o.length → ∃ g of, oa = some ⟨g, of, none⟩ ∧ (o.length : Int) ≤ oc ∧ (oc : Int) ≤ 9223372036854775807 ∧ DCel W g (of + k * 5) (o.getD k Dn.zero)
theorem DIn.descs {w : World} {x : Dv} (h : DIn w x) : DescAt w x.oa x.oc x.o := by
  intro W hb k hk
  obtain ⟨g, of, h1, h2, h3, h4, h5⟩ := h.desc k hk
  exact ⟨g, of, h1, h3, h4, (DCel.of h5).below hb h2⟩

set_option maxHeartbeats 4000000 in
theorem check_any' (x : Dv) (w : World) (h : DIn w x) (ho : x.o.length ≤ 10000) (ht : x.t.length ≤ 1000) :
    Calls Try.prog 23 #[dVal x] w (RetW (.bool (checkV x.pl)) w) := by
  have HRef := Lib.hid (fun W hb => refs_any x W (h.below hb) ho ht)
  unfold RefsPost at HRef
  have HD := Lib.hid h.descs
  have hcap := h.t.cap
  have hcapo := h.o.cap
  have HS : Hid (checkV x.pl = (refOK x.pl && decide (1 ≤ x.t.length ∧ x.t.length ≤ 8 ∧ x.o.length ≤ 128) && itemsB x.pl x.o.length)) := by
    unfold Hid checkV
    rw [show x.pl.t.length = x.t.length from List.length_map _]; rfl
  have HI : Hid (∀ k, k < x.o.length → itemB ((refC x.pl).getD k 0) (decide (k + 1 = x.o.length)) (x.o.getD k Dn.zero) = false → checkV x.pl = false) := fun k hk hh => items_false (d := x.pl) hk hh
  have HJ : Hid (∀ k, itemsB x.pl (k + 1) = (itemsB x.pl k && itemB ((refC x.pl).getD k 0) (decide (k + 1 = x.o.length)) (x.o.getD k Dn.zero))) := fun k => items_succ x.pl k
  have HB : Hid (refOK x.pl = true → ∀ k, k < x.o.length → 0 ≤ (refC x.pl).getD k 0 ∧ (refC x.pl).getD k 0 ≤ 16 * x.t.length) := fun hh k hk => by
    have := refC_bd hh k hk
    rw [show x.pl.t.length = x.t.length from List.length_map _] at this
    exact this
  have HL : Hid ((refC x.pl).length = x.o.length) := cnt_len _ _
  have HZ : Hid (itemsB x.pl 0 = true) := rfl
  have HPL : Hid (x.pl.o.length = x.o.length) := rfl
  clear h
  generalize checkV x.pl = cv at *
  generalize itemsB x.pl = ib at *
  generalize refC x.pl = C at *
  unfold dVal at HRef ⊢
  rw [HPL.out] at HRef
  generalize refOK x.pl = rok at *
  clear HPL
  obtain ⟨oa, oc, o, ta, tc, t⟩ := x
  simp only at HRef HD ho ht hcap hcapo HS HI HJ HB HL
  go_enter Try.func23, Try.ntmps23
  go_wp2_with fail
  refine (HRef.out _ ((Below.refl _ _).alloc (Nat.le_refl _) _)).mono ?_
  rintro e w2 ⟨hb, hres⟩
  have hp0 : w2.cell? ⟨w.heap.size, 0, none⟩ = some (.slice oa o.length oc) := (hb.cell (p := ⟨w.heap.size, 0, none⟩) (by simp)).trans (by simp)
  have hp1 : w2.cell? ⟨w.heap.size, 1, none⟩ = some (.slice ta t.length tc) := (hb.cell (p := ⟨w.heap.size, 1, none⟩) (by simp)).trans (by simp)
  have hsz := hb.size
  rw [show (w.alloc (Obj.cells #[.slice oa o.length oc, .slice ta t.length tc] 29)).heap.size = w.heap.size + 1 from by simp] at hres hsz
  have HBel : Hid (Below w.heap.size w w2) := ((Below.refl _ w).alloc (Nat.le_refl _) _).trans (hb.mono (by simp))
  clear HRef hb
  rcases hres with ⟨hrok, rfl, hAt⟩ | ⟨hrok, rfl⟩
  · rw [hrok] at HS HB
    have HAt := Lib.hid hAt
    clear hAt hrok
    by_cases hl : 1 ≤ t.length ∧ t.length ≤ 8 ∧ o.length ≤ 128
    · obtain ⟨l1, l2, l3⟩ := hl
      rw [Bool.true_and, decide_eq_true ⟨l1, l2, l3⟩, Bool.true_and] at HS
      have l1' : (1 : Int) ≤ (t.length : Int) := by omega
      have l2' : (t.length : Int) ≤ 8 := by omega
      have l3' : (o.length : Int) ≤ 128 := by omega
      go_wp2_with fail
      have HF : Hid (∀ W, Below w2.heap.size w2 W → W.cell? ⟨w.heap.size, 0, none⟩ = some (.slice oa o.length oc) ∧ ∀ k, k < o.length → W.cell? ⟨w.heap.size + 1 + 1, k, none⟩ = some (.int .i64 (C.getD k 0))) := fun W hbW =>
        ⟨(hbW.cell (p := ⟨w.heap.size, 0, none⟩) (by show w.heap.size < w2.heap.size; omega)).trans hp0, fun k hk => (hbW.cell (p := ⟨w.heap.size + 1 + 1, k, none⟩) HAt.out.hi).trans (HAt.out.cell k _ (ints_at _ k (by rw [HL.out]; exact hk)))⟩
      clear hp0 hp1 HAt
      go_loopw [35] (fun v35 wr => ∃ k : Nat, k ≤ o.length ∧ v35 = .int .i64 k ∧ Hid (ib k = true) ∧ Hid (Below w2.heap.size w2 wr)) (fun v35 _ => 300 - (intOf v35).toNat)
      case atStart => exact ⟨0, Nat.zero_le _, rfl, HZ, Below.refl _ _⟩
      case round =>
        obtain ⟨k, hk, rfl, HT, HW⟩ := hrel
        have HBW := Lib.hid (HBel.out.trans (HW.out.mono HBel.out.size))
        by_cases hlt : k < o.length
        · have hlt' : (k : Int) < (o.length : Int) := by omega
          obtain ⟨g, of, rfl, _, _, hcel⟩ := HD.out wr HBW.out k hlt
          generalize ha : o.getD k Dn.zero = a at hcel
          have hdn : Hid (o.getD k Dn.zero = a) := ha
          obtain ⟨fi, fl, f, cu, rf⟩ := a
          obtain ⟨k0, k1, k2, k3, k4⟩ := hcel
          simp only at k0 k1 k2 k3 k4
          have hlw : w2.heap.size ≤ wr.heap.size := HW.out.size
          go_wp2_with fail
          have hA := DCel.new wr ⟨fi, fl, f, cu, rf⟩
          simp only at hA
          have HB2 : Hid (Below w2.heap.size w2 (wr.alloc (Obj.cells #[Value.int IntKind.i64 fi, Value.int IntKind.i64 fl, Value.int IntKind.i64 f, Value.int IntKind.i64 cu, Value.int IntKind.i64 rf] 34))) := HW.out.alloc HW.out.size _
          have hsA : wr.heap.size < (wr.alloc (Obj.cells #[Value.int IntKind.i64 fi, Value.int IntKind.i64 fl, Value.int IntKind.i64 f, Value.int IntKind.i64 cu, Value.int IntKind.i64 rf] 34)).heap.size := by simp
          obtain ⟨f0, fk⟩ := HF.out _ HB2.out
          replace fk := fk k hlt
          generalize wr.alloc (Obj.cells #[Value.int IntKind.i64 fi, Value.int IntKind.i64 fl, Value.int IntKind.i64 f, Value.int IntKind.i64 cu, Value.int IntKind.i64 rf] 34) = wa at *
          obtain ⟨cb0, cb1⟩ := HB.out trivial k hlt
          have hI := HI.out k hlt
          have hJ := HJ.out k
          rw [HT.out, Bool.true_and] at hJ
          have HIk := Lib.hid hI
          have HJk := Lib.hid hJ
          clear hI hJ HI HJ HB HD HF HW k0 k1 k2 k3 k4
          generalize C.getD k 0 = c at *
          generalize wr.heap.size = A at *
          obtain ⟨k0, k1, k2, k3, k4⟩ := hA
          simp only [Nat.zero_add] at k0 k1 k2 k3 k4
          have hlo : w.heap.size + 1 ≤ w2.heap.size := hsz
          have HBX := Lib.hid (HBel.out.trans (HB2.out.mono HBel.out.size))
          have HDM : Hid (o.getD k Dn.zero = ⟨fi, fl, f, cu, rf⟩) := hdn
          rw [HDM.out] at HIk HJk
          have hml : decide (k + 1 = o.length) = decide ((k : Int) = (o.length : Int) - 1) := decide_eq_decide.2 (by omega)
          rw [hml] at HIk HJk
          clear hdn hml HDM
          by_cases hrf : rf = c
          · subst hrf
            by_cases hc0 : rf = 0
            · subst hc0
              by_cases hz : fi = 0 ∧ fl = 0 ∧ f = 0 ∧ cu = 0
              · obtain ⟨rfl, rfl, rfl, rfl⟩ := hz
                by_cases hlast : (k : Int) = (o.length : Int) - 1
                · have HV := Lib.hid (HIk.out (by rw [decide_eq_true hlast]; rfl))
                  have hle : (o.length : Int) - 1 ≤ (k : Int) := by omega
                  clear hlast
                  go_quiet (fail)
                  go_wp2_with fail
                  go_ret
                  exact RetW.mk (by rw [HV.out]; try rfl) (below_drewN HBX.out _)
                · have HV := HJk.out
                  rw [decide_eq_false hlast, show itemB 0 false ⟨0, 0, 0, 0, 0⟩ = true from rfl] at HV
                  replace HV := Lib.hid HV
                  go_quiet (fail)
                  go_wp2_with fail
                  go_roundw
                  case rel => exact ⟨k + 1, by omega, by go_num, HV, below_drewN HB2.out _⟩
                  case measure => simp [intOf]; omega
              · have HV := Lib.hid (HIk.out (by
                  unfold itemB
                  rw [if_pos rfl, decide_eq_false (show ¬ ((⟨fi, fl, f, cu, 0⟩ : Dn) = Dn.zero) from fun e => hz (by cases e; exact ⟨rfl, rfl, rfl, rfl⟩)), Bool.false_and, Bool.and_false]))
                have HN := Lib.hid hz
                clear hz
                go_quiet (fail)
                go_wp2_with fail
                all_goals first | (exfalso; have := HN.out; omega) | (go_ret; exact RetW.mk (by rw [HV.out]; try rfl) (below_drewN HBX.out _))
            · have hpos : 0 < rf := by omega
              have hit : ∀ b, itemB rf b ⟨fi, fl, f, cu, rf⟩ = (fixB fi fl && movB f cu) := fun b => by
                unfold itemB
                rw [if_neg hc0, decide_eq_true rfl, Bool.true_and]; rfl
              rw [hit] at HIk HJk
              have HFX := Lib.hid (fun W => fixed_any fi fl W)
              have HMV := Lib.hid (fun W => moving_any ⟨fi, fl, f, cu, rf⟩ W)
              simp only [dnVal] at HMV
              clear hit
              generalize fixB fi fl = b1 at *
              generalize movB f cu = b2 at *
              go_quiet (fail)
              have HBY := Lib.hid (below_drewN HB2.out nq)
              have HBZ := Lib.hid (below_drewN HBX.out nq)
              have k0' : (wa.drewN nq).cell? ⟨A, 0, none⟩ = some (.int .i64 fi) := k0
              have k1' : (wa.drewN nq).cell? ⟨A, 1, none⟩ = some (.int .i64 fl) := k1
              have k2' : (wa.drewN nq).cell? ⟨A, 2, none⟩ = some (.int .i64 f) := k2
              have k3' : (wa.drewN nq).cell? ⟨A, 3, none⟩ = some (.int .i64 cu) := k3
              have k4' : (wa.drewN nq).cell? ⟨A, 4, none⟩ = some (.int .i64 rf) := k4
              have f0' : (wa.drewN nq).cell? ⟨w.heap.size, 0, none⟩ = some (.slice (some ⟨g, of, none⟩) o.length oc) := f0
              have fk' : (wa.drewN nq).cell? ⟨w.heap.size + 1 + 1, k, none⟩ = some (.int .i64 rf) := fk
              have hsA' : A < (wa.drewN nq).heap.size := hsA
              clear k0 k1 k2 k3 k4 f0 fk hsA HB2 HBX
              generalize wa.drewN nq = wb at *
              go_wp2_with fail
              refine (HFX.out _).mono ?_
              rintro e w3 ⟨rfl, hb⟩
              replace HBY := Lib.hid (HBY.out.trans (hb.mono HBY.out.size))
              replace HBZ := Lib.hid (HBZ.out.trans (hb.mono HBZ.out.size))
              have j0 := (hb.cell (p := ⟨A, 0, none⟩) hsA').trans k0'
              have j1 := (hb.cell (p := ⟨A, 1, none⟩) hsA').trans k1'
              have j2 := (hb.cell (p := ⟨A, 2, none⟩) hsA').trans k2'
              have j3 := (hb.cell (p := ⟨A, 3, none⟩) hsA').trans k3'
              have j4 := (hb.cell (p := ⟨A, 4, none⟩) hsA').trans k4'
              clear hb
              cases b1 with
              | false =>
                have HV := Lib.hid (HIk.out rfl)
                go_wp2_with fail
                go_ret
                exact RetW.mk (by rw [HV.out]; try rfl) HBZ.out
              | true =>
                go_wp2_with fail
                refine (HMV.out _).mono ?_
                rintro e w4 ⟨rfl, hb⟩
                replace HBY := Lib.hid (HBY.out.trans (hb.mono HBY.out.size))
                replace HBZ := Lib.hid (HBZ.out.trans (hb.mono HBZ.out.size))
                clear hb
                cases b2 with
                | false =>
                  have HV := Lib.hid (HIk.out rfl)
                  go_wp2_with fail
                  go_ret
                  exact RetW.mk (by rw [HV.out]; try rfl) HBZ.out
                | true =>
                  have HV := Lib.hid HJk.out
                  rw [show (true && true) = true from rfl] at HV
                  go_wp2_with fail
                  go_roundw
                  case rel => exact ⟨k + 1, by omega, by go_num, HV, HBY.out⟩
                  case measure => simp [intOf]; omega
          · have HV := Lib.hid (HIk.out (by unfold itemB; rw [decide_eq_false hrf]; rfl))
            go_quiet (fail)
            go_wp2_with fail
            go_ret
            exact RetW.mk (by rw [HV.out]; try rfl) (below_drewN HBX.out _)
        · obtain rfl : k = o.length := by omega
          have HV := HS.out.trans HT.out
          replace HV := Lib.hid HV
          go_wp2_with fail
          go_ret
          exact RetW.mk (by rw [HV.out]; try rfl) HBW.out
    · rw [Bool.true_and, decide_eq_false hl, Bool.false_and] at HS
      have HN := Lib.hid hl
      clear hl
      go_wp2_with fail
      all_goals first | (exfalso; have := HN.out; omega) | (go_ret; exact RetW.mk (by rw [HS.out]; try rfl) HBel.out)
  · rw [hrok] at HS
    go_wp2_with fail
    go_ret
    exact RetW.mk (by rw [HS.out]; rfl) HBel.out
end Go.Proofs.Ytflcbefomjlgmaa
