/- Same at descriptors that are alike. -/
import Derived.Test.YtflcbefomjlgmaaCo
set_option linter.unusedSimpArgs false
set_option linter.unusedVariables false
namespace Go.Proofs.Ytflcbefomjlgmaa
open Go.ChangeShapes Go.WideShapes Go.ChangeAt Go.RowKit

set_option maxHeartbeats 8000000 in
theorem same_any (x z : Dv) (w : World) (hx : DIn w x) (hz : DIn w z) (hxz : z.pl = x.pl) (hs : DSz x) :
    Calls Try.prog 14 #[dVal x, dVal z] w (RetW (.bool true) w) := by
  have hso := hs.o
  have hst := hs.t
  have hse : ∀ k, k < x.t.length → (x.t.getD k Tb.nil).l.length ≤ 10000 := fun k hk => hs.e _ (by rw [getD_get hk]; exact List.getElem_mem hk)
  have HSE := Lib.hid hse
  have HXO := Lib.hid hx.descs
  have HZO := Lib.hid hz.descs
  have HXR := Lib.hid hx.rows
  have HZR := Lib.hid hz.rows
  have ho : z.o = x.o := congrArg De.o hxz
  have ht : z.t.map Tb.l = x.t.map Tb.l := congrArg De.t hxz
  have htl : z.t.length = x.t.length := by have := congrArg List.length ht; simpa using this
  have HTL : Hid (∀ k, k < x.t.length → (z.t.getD k Tb.nil).l = (x.t.getD k Tb.nil).l) := fun k hk => by
    rw [← map_getD z.t k (by omega), ht, map_getD x.t k hk]
  clear hx hz hs hse hxz ht
  unfold dVal
  obtain ⟨oa, oc, o, ta, tc, t⟩ := x
  obtain ⟨oa', oc', o', ta', tc', t'⟩ := z
  simp only at ho htl HXO HZO HXR HZR HTL HSE hso hst ⊢
  subst ho
  generalize hn : t'.length = n at *
  have HN' := Lib.hid hn
  subst htl
  obtain ⟨w0, hw0⟩ : ∃ w0, w0 = (w.alloc (Obj.cells #[.slice oa o'.length oc, .slice ta t.length tc] 29)).alloc (Obj.cells #[.slice oa' o'.length oc', .slice ta' t.length tc'] 29) := ⟨_, rfl⟩
  have HB0 : Hid (Below w.heap.size w w0) := by rw [Hid, hw0]; exact ((Below.refl _ w).alloc (Nat.le_refl _) _).alloc (by simp) _
  have hp0 : w0.cell? ⟨w.heap.size, 0, none⟩ = some (.slice oa o'.length oc) := by rw [hw0]; simp
  have hp1 : w0.cell? ⟨w.heap.size, 1, none⟩ = some (.slice ta t.length tc) := by rw [hw0]; simp
  have hq0 : w0.cell? ⟨w.heap.size + 1, 0, none⟩ = some (.slice oa' o'.length oc') := by rw [hw0]; simp
  have hq1 : w0.cell? ⟨w.heap.size + 1, 1, none⟩ = some (.slice ta' t.length tc') := by rw [hw0]; simp
  have hs0 : w0.heap.size = w.heap.size + 2 := by rw [hw0]; simp
  have HC : Hid (∀ W, Below w0.heap.size w0 W → W.cell? ⟨w.heap.size, 0, none⟩ = some (.slice oa o'.length oc) ∧ W.cell? ⟨w.heap.size, 1, none⟩ = some (.slice ta t.length tc) ∧ W.cell? ⟨w.heap.size + 1, 0, none⟩ = some (.slice oa' o'.length oc') ∧ W.cell? ⟨w.heap.size + 1, 1, none⟩ = some (.slice ta' t.length tc')) := fun W hb =>
    ⟨(hb.cell (p := ⟨w.heap.size, 0, none⟩) (by show w.heap.size < w0.heap.size; omega)).trans hp0, (hb.cell (p := ⟨w.heap.size, 1, none⟩) (by show w.heap.size < w0.heap.size; omega)).trans hp1, (hb.cell (p := ⟨w.heap.size + 1, 0, none⟩) (by show w.heap.size + 1 < w0.heap.size; omega)).trans hq0, (hb.cell (p := ⟨w.heap.size + 1, 1, none⟩) (by show w.heap.size + 1 < w0.heap.size; omega)).trans hq1⟩
  clear hs0
  go_enter Try.func14, Try.ntmps14
  go_upto_region 1 with (fail)
  rw [← hw0]
  clear hw0
  go_wp2_with fail
  clear hp0 hp1 hq0 hq1
  go_loopw [5] (fun v5 wr => ∃ k : Nat, k ≤ o'.length ∧ v5 = .int .i64 k ∧ Hid (Below w0.heap.size w0 wr)) (fun v5 _ => 20000 - (intOf v5).toNat)
  case atStart => exact ⟨0, Nat.zero_le _, rfl, Below.refl _ _⟩
  case round =>
    obtain ⟨k, hk, rfl, HB⟩ := hrel
    have HBW := Lib.hid (HB0.out.trans (HB.out.mono HB0.out.size))
    obtain ⟨p0, p1, r0, r1⟩ := HC.out wr HB.out
    by_cases hlt : k < o'.length
    · have hltI : (k : Int) < (o'.length : Int) := by omega
      obtain ⟨g, of, rfl, e1, e2, e3⟩ := HXO.out wr HBW.out k hlt
      obtain ⟨g', of', rfl, f1, f2, f3⟩ := HZO.out wr HBW.out k hlt
      generalize o'.getD k Dn.zero = a at *
      obtain ⟨fi, fl, f, cu, rf⟩ := a
      obtain ⟨k0, k1, k2, k3, k4⟩ := e3
      obtain ⟨m0, m1, m2, m3, m4⟩ := f3
      simp only at k0 k1 k2 k3 k4 m0 m1 m2 m3 m4
      go_wp2_with fail
      go_quiet (fail)
      go_wp2_with fail
      go_roundw
      case rel => exact ⟨k + 1, by omega, by go_num, below_drewN HB.out _⟩
      case measure => simp [intOf]; omega
    · obtain rfl : k = o'.length := by omega
      clear HXO HZO hlt hk
      go_wp2_with fail
      go_loopw [6] (fun v6 wr => ∃ k : Nat, k ≤ t.length ∧ v6 = .int .i64 k ∧ Hid (Below w0.heap.size w0 wr)) (fun v6 _ => 20000 - (intOf v6).toNat)
      case atStart => exact ⟨0, Nat.zero_le _, rfl, HB⟩
      case round =>
        clear HB HBW p0 p1 r0 r1
        obtain ⟨k, hk, rfl, HB⟩ := hrel
        have HBW := Lib.hid (HB0.out.trans (HB.out.mono HB0.out.size))
        obtain ⟨p0, p1, r0, r1⟩ := HC.out wr HB.out
        by_cases hlt : k < t.length
        · have hltI : (k : Int) < (t.length : Int) := by omega
          have hlt' : k < t'.length := by rw [HN'.out]; exact hlt
          have HX : Hid (∀ W, Below w.heap.size w W → ∃ g o, ta = some ⟨g, o, none⟩ ∧ (t.length : Int) ≤ tc ∧ (tc : Int) ≤ 9223372036854775807 ∧ W.cell? ⟨g, o + k, none⟩ = some (.slice (t.getD k Tb.nil).a (t.getD k Tb.nil).l.length (t.getD k Tb.nil).c) ∧ ∀ j, j < (t.getD k Tb.nil).l.length → ∃ g' o', (t.getD k Tb.nil).a = some ⟨g', o', none⟩ ∧ ((t.getD k Tb.nil).l.length : Int) ≤ (t.getD k Tb.nil).c ∧ ((t.getD k Tb.nil).c : Int) ≤ 9223372036854775807 ∧ W.cell? ⟨g', o' + j, none⟩ = some (.int .i64 ((t.getD k Tb.nil).l.getD j 0))) := fun W hb => HXR.out W hb k hlt
          have HZ : Hid (∀ W, Below w.heap.size w W → ∃ g o, ta' = some ⟨g, o, none⟩ ∧ (t'.length : Int) ≤ tc' ∧ (tc' : Int) ≤ 9223372036854775807 ∧ W.cell? ⟨g, o + k, none⟩ = some (.slice (t'.getD k Tb.nil).a (t'.getD k Tb.nil).l.length (t'.getD k Tb.nil).c) ∧ ∀ j, j < (t'.getD k Tb.nil).l.length → ∃ g' o', (t'.getD k Tb.nil).a = some ⟨g', o', none⟩ ∧ ((t'.getD k Tb.nil).l.length : Int) ≤ (t'.getD k Tb.nil).c ∧ ((t'.getD k Tb.nil).c : Int) ≤ 9223372036854775807 ∧ W.cell? ⟨g', o' + j, none⟩ = some (.int .i64 ((t'.getD k Tb.nil).l.getD j 0))) := fun W hb => HZR.out W hb k hlt'
          have hll := HTL.out k hlt
          have hle := HSE.out k hlt
          rw [hll, HN'.out] at HZ
          clear hll hlt'
          generalize t.getD k Tb.nil = y at *
          generalize t'.getD k Tb.nil = y' at *
          obtain ⟨ya, yc, yl⟩ := y
          obtain ⟨ya', yc', yl'⟩ := y'
          simp only at HX HZ hle
          obtain ⟨g, of, e1, e2, e3, e4, _⟩ := HX.out wr HBW.out
          obtain ⟨g', of', f1, f2, f3, f4, _⟩ := HZ.out wr HBW.out
          have HE1 := Lib.hid e1
          have HF1 := Lib.hid f1
          rw [e1] at p1
          rw [f1] at r1
          clear e1 f1
          go_wp2_with fail
          go_quiet (fail)
          have hB2 : Below w0.heap.size w0 (wr.drewN nq) := below_drewN HB.out nq
          have HB2 := Lib.hid hB2
          clear hB2 HB HBW p0 p1 r0 r1 e4 f4
          generalize wr.drewN nq = w1 at *
          go_wp2_with fail
          go_loopw [7] (fun v7 wr => ∃ j : Nat, j ≤ yl.length ∧ v7 = .int .i64 j ∧ Hid (Below w0.heap.size w0 wr)) (fun v7 _ => 20000 - (intOf v7).toNat)
          case atStart => exact ⟨0, Nat.zero_le _, rfl, HB2⟩
          case round => as_aux_lemma =>
            clear HB2
            obtain ⟨j, hj, rfl, HB⟩ := hrel
            have HBW := Lib.hid (HB0.out.trans (HB.out.mono HB0.out.size))
            obtain ⟨p0, p1, r0, r1⟩ := HC.out wr HB.out
            obtain ⟨g2, of2, e1, _, _, e4, e5⟩ := HX.out wr HBW.out
            rw [HE1.out] at e1
            cases e1
            obtain ⟨g2', of2', f1, _, _, f4, f5⟩ := HZ.out wr HBW.out
            rw [HF1.out] at f1
            cases f1
            rw [HE1.out] at p1
            rw [HF1.out] at r1
            by_cases hjl : j < yl.length
            · have hjI : (j : Int) < (yl.length : Int) := by omega
              obtain ⟨g3, o3, s1, s2, s3, s4⟩ := e5 j hjl
              obtain ⟨g4, o4, u1, u2, u3, u4⟩ := f5 j hjl
              rw [s1] at e4
              rw [u1] at f4
              clear e5 f5
              generalize yl.getD j 0 = zz at *
              go_wp2_with fail
              go_quiet (fail)
              go_wp2_with fail
              go_roundw
              case rel => exact ⟨j + 1, by omega, by go_num, below_drewN HB.out _⟩
              case measure => simp [intOf]; omega
            · obtain rfl : j = yl.length := by omega
              clear e5 f5
              go_wp2_with fail
              go_roundw
              case rel => exact ⟨k + 1, by omega, by go_num, HB⟩
              case measure => simp [intOf]; omega
        · obtain rfl : k = t.length := by omega
          go_wp2_with fail
          go_ret
          exact RetW.mk rfl HBW.out
end Go.Proofs.Ytflcbefomjlgmaa
