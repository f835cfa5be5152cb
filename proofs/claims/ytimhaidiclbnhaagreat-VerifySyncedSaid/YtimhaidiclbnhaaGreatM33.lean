/- Layer 46, shared texts of this seat, part 33. -/
import Derived.Test.YtimhaidiclbnhaaGreatM32
import Derived.Test.YtimhaidiclbnhaaGreatM28
import Derived.Test.YtimhaidiclbnhaaGreatM23
/- Layer 46: the plans of sync. -/
set_option linter.unusedSimpArgs false
set_option linter.unusedVariables false
set_option maxRecDepth 100000
namespace Go.Proofs.YtimhaidiclbnhaaGreat.Ver
open Go.ChangeShapes Go.WideShapes Go.ChangeAt Go.RowKit
open Des (Dv De Dn DIn DBlk DAns Vi At RowOf ints DSz)
open Ara (Ar ARow)
open Con (StrRow)

def syncR (s : St) (p : Int) (o : Opr) (x : Ev) : Res × St :=
  if lkE s p o.fd 0 ≠ 0 then (badR (lkE s p o.fd 0), s) else (⟨(if (Des.lookV s.d p o.fd).cu < s.fa.getD (Des.lookV s.d p o.fd).fi.toNat 0 then s.la.getD (Des.lookV s.d p o.fd).fi.toNat 0 else 0), 0, ⟨#[]⟩⟩, syS { s with d := Des.updD s.d (Des.numV s.d p o.fd) (Des.lookV s.d p o.fd).f (s.fa.getD (Des.lookV s.d p o.fd).fi.toNat 0) } (Des.lookV s.d p o.fd).fi.toNat x)
set_option maxHeartbeats 8000000 in
theorem sync_any (B : Nat) (l : Ly) (s : St) (p : Int) (o : Opr) (x : Ev) (W : World) (h : Mm B W l s) (hr : Des.Rt s.d) (hn : s.fs.length ≤ 1000) (hfa : s.fa.length = s.fs.length) (hla : s.la.length = s.fs.length) (hfh : s.h.length = s.fs.length) (hfs : s.st.length = s.fs.length) (hl : ∀ i, i < s.h.length → (s.h.getD i ([], 0)).1.length ≤ 10000) (hsl : ∀ i, i < s.st.length → (s.st.getD i []).length ≤ 10000) (hst : ∀ i, i < s.st.length → ∀ z, z ∈ s.st.getD i [] → 0 ≤ z ∧ z ≤ 1000000) :
    Calls Tryz.prog 72 #[stepV l.M p o x] W (PlanP B W l s (syncR s p o x).1 (syncR s p o x).2) := by
  have HLK : Hid (∀ W', Below W.heap.size W W' → Calls Tryz.prog 91 #[stepV l.M p o x, .int .i64 0] W' (RetW (.tuple #[.int .i64 (Des.numV s.d p o.fd), .agg #[.int .i64 (Des.lookV s.d p o.fd).fi, .int .i64 (Des.lookV s.d p o.fd).fl, .int .i64 (Des.lookV s.d p o.fd).f, .int .i64 (Des.lookV s.d p o.fd).cu, .int .i64 (Des.lookV s.d p o.fd).rf], .int .i64 (lkE s p o.fd 0)]) W')) := Lib.hid fun W' hb => lookup_any' B l s p o x 0 W' (h.below hb) hr hn
  have HM := Lib.hid h
  have HLZ : Hid (lkE s p o.fd 0 = 0 → ∃ f : Nat, (Des.lookV s.d p o.fd).fi = (f : Int) ∧ f < s.fs.length) := Lib.hid fun h0 => (lk_zero h0 hr).2.2.2
  have HE : Hid (syncR s p o x = if lkE s p o.fd 0 ≠ 0 then (badR (lkE s p o.fd 0), s) else (⟨(if (Des.lookV s.d p o.fd).cu < s.fa.getD (Des.lookV s.d p o.fd).fi.toNat 0 then s.la.getD (Des.lookV s.d p o.fd).fi.toNat 0 else 0), 0, ⟨#[]⟩⟩, syS { s with d := Des.updD s.d (Des.numV s.d p o.fd) (Des.lookV s.d p o.fd).f (s.fa.getD (Des.lookV s.d p o.fd).fi.toNat 0) } (Des.lookV s.d p o.fd).fi.toNat x)) := Lib.hid rfl
  have HX := Lib.hid (Bx2.start W (stepC l.M p o x) [.int .i64 0, .int .i64 0, .string ⟨#[]⟩, .nilFunc] 122 114)
  have hmf : ∀ (fn : Fn) (first cap : Array Value) (w : World), (Instr.makeFunc fn first cap).run Tryz.prog w = .ok (.func fn first cap) w := fun _ _ _ _ => rfl
  unfold stepV at HLK ⊢
  obtain ⟨cs, hcs⟩ : ∃ cs, cs = stepC l.M p o x := ⟨_, rfl⟩
  have HCS := Lib.hid hcs
  rw [← hcs] at HX HLK ⊢
  clear hcs h
  generalize syncR s p o x = PR at *
  generalize lkE s p o.fd 0 = le at *
  generalize Des.numV s.d p o.fd = nv at *
  generalize Des.lookV s.d p o.fd = D at *
  go_enter Tryz.func72, Tryz.ntmps72
  go_upto_region 1 with (fail)
  generalize World.alloc _ (Obj.cells #[.int .i64 0, .int .i64 0, .string ⟨#[]⟩, .nilFunc] 114) = W0 at *
  have hmf' := Lib.hid hmf
  clear hmf
  go_wp2_with (with_reducible refine Des.hold_load 122 rfl ?_)
  refine Des.load_ato 0 HX.out.t.r Tryz.underlying122 rfl (by rw [HCS.out]; exact size122) rfl rfl rfl ?_
  go_wp2_with fail
  refine (HLK.out _ HX.out.bel).mono ?_
  rintro e w1 ⟨rfl, hb⟩
  replace HX := Lib.hid (HX.out.below hb)
  clear hb HLK
  have HNK := Lib.hid (two_new w1 [.int .i64 nv] 3 [.int .i64 D.fi, .int .i64 D.fl, .int .i64 D.f, .int .i64 D.cu, .int .i64 D.rf] 126)
  have HR1 : Hid (W.heap.size + 1 < w1.heap.size) := Lib.hid HX.out.r.hi
  go_upto_region 2 with (fail)
  generalize ((w1.alloc (Obj.cells #[.int .i64 nv] 3)).alloc (Obj.cells #[.int .i64 D.fi, .int .i64 D.fl, .int .i64 D.f, .int .i64 D.cu, .int .i64 D.rf] 126)) = W1 at *
  replace HX := Lib.hid (HX.out.below HNK.out.2.2)
  have HN := Lib.hid HNK.out.1
  have HK := Lib.hid HNK.out.2.1
  have HKN : Hid (W.heap.size + 1 < w1.heap.size + 1 ∧ W.heap.size + 1 < w1.heap.size ∧ w1.heap.size ≠ w1.heap.size + 1) := Lib.hid (by have := HR1.out; omega)
  clear HNK HR1
  generalize w1.heap.size + 1 = K at *
  generalize w1.heap.size = N at *
  by_cases hz : le = 0
  · subst hz
    have HE2 := Lib.hid (HE.out.trans (if_neg (by simp)))
    clear HE
    have HE := HE2
    clear HE2
    obtain ⟨f, hf, hfn⟩ := HLZ.out rfl
    rw [hf, Int.toNat_natCast] at HE
    have HFI : Hid (D.fi = (f : Int)) := Lib.hid hf
    clear HLZ hf
    have HFA : Hid ((ints s.fa)[f]? = some (.int .i64 (s.fa.getD f 0))) := Lib.hid (Des.ints_at s.fa f (by omega))
    have HLA : Hid ((ints s.la)[f]? = some (.int .i64 (s.la.getD f 0))) := Lib.hid (Des.ints_at s.la f (by omega))
    generalize s.fa.getD f 0 = fv at *
    generalize s.la.getD f 0 = lv at *
    have hfI : (f : Int) < (s.fs.length : Int) := by omega
    have hnI : (s.fs.length : Int) ≤ 1000 := by omega
    go_upto_region 5 with (fail)
    go_cut [28, 6] (fun v v6 wx => v = .bool (decide (D.cu < fv)) ∧ v6 = .int .i64 0 ∧ Hid (Below W1.heap.size W1 wx))
    case first =>
      have t0 := HX.out.t.cell 0 (.pointer (some ⟨l.M, 0, none⟩)) (by rw [HCS.out]; rfl); have mA := (HM.out.below HX.out.bel).cA; have a := (HM.out.below HX.out.bel).a.cell f _ HFA.out; have mL := (HM.out.below HX.out.bel).cL; have b := (HM.out.below HX.out.bel).la.cell f _ HLA.out; have d0 := HK.out.cell 0 (.int .i64 (f : Int)) (by rw [← HFI.out]; rfl); have d3 := HK.out.cell 3 (.int .i64 D.cu) rfl
      by_cases hcu : D.cu < fv
      · go_wp2_with fail
        go_quiet (fail)
        go_wp2_with fail
        go_meet
        exact ⟨by simp [hcu], rfl, Lib.hid (below_drewN (Below.refl _ _) nq)⟩
      · go_wp2_with fail
        go_quiet (fail)
        go_wp2_with fail
        go_meet
        exact ⟨by simp [hcu], rfl, Lib.hid (below_drewN (Below.refl _ _) nq)⟩
    case rest =>
    obtain ⟨rfl, rfl, HBB⟩ := hcut
    replace HX := Lib.hid (HX.out.below HBB.out)
    replace HN := Lib.hid (HN.out.below HBB.out HN.out.hi)
    replace HK := Lib.hid (HK.out.below HBB.out HK.out.hi)
    clear HBB
    go_upto_if 28 with (fail)
    go_cut [6] (fun v6 wx => v6 = .int .i64 (if D.cu < fv then lv else 0) ∧ Hid (Bx2 W wx W.heap.size (W.heap.size + 1) cs [.int .i64 0, .int .i64 0, .string ⟨#[]⟩, .nilFunc]) ∧ Hid (At wx N [.int .i64 nv]) ∧ Hid (At wx K [.int .i64 D.fi, .int .i64 D.fl, .int .i64 D.f, .int .i64 D.cu, .int .i64 D.rf]))
    case first =>
      have t0 := HX.out.t.cell 0 (.pointer (some ⟨l.M, 0, none⟩)) (by rw [HCS.out]; rfl); have mA := (HM.out.below HX.out.bel).cA; have a := (HM.out.below HX.out.bel).a.cell f _ HFA.out; have mL := (HM.out.below HX.out.bel).cL; have b := (HM.out.below HX.out.bel).la.cell f _ HLA.out; have d0 := HK.out.cell 0 (.int .i64 (f : Int)) (by rw [← HFI.out]; rfl); have d3 := HK.out.cell 3 (.int .i64 D.cu) rfl
      by_cases hcu : D.cu < fv
      · have hd : decide (D.cu < fv) = true := decide_eq_true hcu
        rw [hd]
        have HCU := Lib.hid hcu
        clear hd hcu
        go_wp2_with fail
        go_quiet (fail)
        go_wp2_with fail
        go_meet
        exact ⟨by rw [if_pos HCU.out], Lib.hid (HX.out.below (below_drewN (Below.refl _ _) nq)), Lib.hid (HN.out.below (below_drewN (Below.refl _ _) nq) HN.out.hi), Lib.hid (HK.out.below (below_drewN (Below.refl _ _) nq) HK.out.hi)⟩
      · have hd : decide (D.cu < fv) = false := decide_eq_false hcu
        rw [hd]
        have HCU := Lib.hid hcu
        clear hd hcu
        go_wp2_with fail
        go_meet
        exact ⟨by rw [if_neg (by have := HCU.out; omega)], HX, HN, HK⟩
    case rest =>
    clear HX HN HK
    obtain ⟨rfl, HX, HN, HK⟩ := hcut
    generalize (if D.cu < fv then lv else 0) = told at *
    go_upto_region 7 with (fail)
    obtain ⟨W2, hW2⟩ : ∃ W2, W2 = wc := ⟨_, rfl⟩
    subst hW2
    replace HX := Lib.hid (HX.out.below (Below.refl _ _).drew)
    replace HN := Lib.hid (Des.At.drew HN.out)
    replace HK := Lib.hid (Des.At.drew HK.out)
    have t0 := HX.out.t.cell 0 (.pointer (some ⟨l.M, 0, none⟩)) (by rw [HCS.out]; rfl); have mA := (HM.out.below HX.out.bel).cA; have a := (HM.out.below HX.out.bel).a.cell f _ HFA.out; have mL := (HM.out.below HX.out.bel).cL; have b := (HM.out.below HX.out.bel).la.cell f _ HLA.out; have d0 := HK.out.cell 0 (.int .i64 (f : Int)) (by rw [← HFI.out]; rfl); have d3 := HK.out.cell 3 (.int .i64 D.cu) rfl
    obtain ⟨_, ⟨f0, f1, f2, f3, f4⟩, fh⟩ := Des.At.five HK.out
    have HX2 : Hid (Bx2 W (W2.drew.setCell ⟨K, 3, none⟩ (.int .i64 fv)) W.heap.size (W.heap.size + 1) cs [.int .i64 0, .int .i64 0, .string ⟨#[]⟩, .nilFunc]) := Lib.hid ⟨HX.out.bel.setCell (p := ⟨K, 3, none⟩) (by have := HKN.out; show W.heap.size ≤ K; omega) _, HX.out.t.setOther (x := ⟨K, 3, none⟩) (by have := HKN.out; show W.heap.size ≠ K; omega) _, HX.out.r.setOther (x := ⟨K, 3, none⟩) (by have := HKN.out; show W.heap.size + 1 ≠ K; omega) _, HX.out.lo, HX.out.tr⟩
    have HK2 := Lib.hid (HK.out.set 3 (.int .i64 fv))
    have HN2 : Hid (At (W2.drew.setCell ⟨K, 3, none⟩ (.int .i64 fv)) N [.int .i64 nv]) := Lib.hid (HN.out.setOther (x := ⟨K, 3, none⟩) (by exact HKN.out.2.2) _)
    obtain ⟨W3, hW3⟩ : ∃ W3, W3 = W2.drew.setCell ⟨K, 3, none⟩ (.int .i64 fv) := ⟨_, rfl⟩
    rw [← hW3] at HX2 HK2 HN2
    have HW3 := Lib.hid hW3
    clear hW3
    go_region
    rw [show (W2.setCell ⟨K, 3, none⟩ (.int .i64 fv)).drew = W3 from HW3.out.symm] at *
    replace HK2 : Hid (At W3 K [.int .i64 D.fi, .int .i64 D.fl, .int .i64 D.f, .int .i64 fv, .int .i64 D.rf]) := HK2
    replace HX := HX2
    clear HX2 HK HN HW3 t0 mA a mL b d0 d3 f0 f1 f2 f3 f4 fh
    obtain ⟨PR1, PR2⟩ := PR
    obtain ⟨rfl, rfl⟩ : PR1 = _ ∧ PR2 = _ := by have := HE.out; exact ⟨congrArg Prod.fst this, congrArg Prod.snd this⟩
    clear HE
    replace hmf := hmf'.out
    obtain ⟨_, ⟨r0, r1, r2, r3⟩, rh⟩ := At.four HX.out.r
    obtain ⟨rc0, rc1, rc2, rc3⟩ := (At.four HX.out.r).1
    go_wp2_with fail
    generalize hwB : (((W3.setCell ⟨W.heap.size + 1, 0, none⟩ (.int .i64 told)).setCell ⟨W.heap.size + 1, 1, none⟩ (.int .i64 0)).setCell ⟨W.heap.size + 1, 2, none⟩ (.string ⟨#[]⟩)).setCell ⟨W.heap.size + 1, 3, none⟩ (.func (.func 104) #[] #[.pointer (some ⟨W.heap.size, 0, none⟩), .pointer (some ⟨N, 0, none⟩), .pointer (some ⟨K, 0, none⟩)]) = w9 at *
    have HP : Bx2 W w9 W.heap.size (W.heap.size + 1) cs [.int .i64 told, .int .i64 0, .string ⟨#[]⟩, .func (.func 104) #[] #[.pointer (some ⟨W.heap.size, 0, none⟩), .pointer (some ⟨N, 0, none⟩), .pointer (some ⟨K, 0, none⟩)]] := by rw [← hwB]; exact HX.out.putR [.int .i64 told, .int .i64 0, .string ⟨#[]⟩, .func (.func 104) #[] #[.pointer (some ⟨W.heap.size, 0, none⟩), .pointer (some ⟨N, 0, none⟩), .pointer (some ⟨K, 0, none⟩)]] rfl
    skip
    have HAN : Hid (At w9 N [.int .i64 nv]) := Lib.hid (by rw [← hwB]; exact HN2.out.apart (by have := HKN.out; omega) 0 [.int .i64 told, .int .i64 0, .string ⟨#[]⟩, .func (.func 104) #[] #[.pointer (some ⟨W.heap.size, 0, none⟩), .pointer (some ⟨N, 0, none⟩), .pointer (some ⟨K, 0, none⟩)]])
    have HAK : Hid (At w9 K [.int .i64 D.fi, .int .i64 D.fl, .int .i64 D.f, .int .i64 fv, .int .i64 D.rf]) := Lib.hid (by rw [← hwB]; exact HK2.out.apart (by have := HKN.out; omega) 0 [.int .i64 told, .int .i64 0, .string ⟨#[]⟩, .func (.func 104) #[] #[.pointer (some ⟨W.heap.size, 0, none⟩), .pointer (some ⟨N, 0, none⟩), .pointer (some ⟨K, 0, none⟩)]])
    clear r0 r1 r2 r3 rc0 rc1 rc2 rc3
    obtain ⟨⟨q0, q1, q2, q3⟩, _, _⟩ := At.four HP.r
    exact bodyPost_ret (v := .agg #[.int .i64 told, .int .i64 0, .string ⟨#[]⟩, .func (.func 104) #[] #[.pointer (some ⟨W.heap.size, 0, none⟩), .pointer (some ⟨N, 0, none⟩), .pointer (some ⟨K, 0, none⟩)]]) (by simp [results, Tryz.results72, go_sem, q0, q1, q2, q3]) rfl ⟨_, rfl, HP.bel, Or.inr ⟨104, _, rfl, fun _ _ => rfl, fun W2' hf2 => clo104 B l s p o x nv ⟨D.fi, D.fl, D.f, fv, D.rf⟩ f W.heap.size N K W2' (hf2.mm HP.bel) hr hfn (by omega) (by omega) hn (hl f (by omega)) (hsl f (by omega)) (hst f (by omega)) HFI.out (by rw [← HCS.out]; exact hf2.at HP.t HP.lo) (hf2.at HAN.out (by first | omega | (have := HKN.out; omega) | (have := HO.out.lo; have := HKh.out; have := HKN.out; omega) | (have := HO.out.lo; have := HR1.out; omega) | (have := HN.out.lo; have := HR1.out; omega) | (have := HKN.out; have := HKh.out; omega) | (have := HOl.out; have := HKh.out; have := HKN.out; omega) | (have := HKN.out; have := HR1.out; omega) | (have := HOl.out; omega) | (have := HN.out.lo; have := HOl.out; have := HR1.out; omega) | (have := HKh.out; have := HOl.out; have := HR1.out; omega))) (hf2.at HAK.out (by first | omega | (have := HKN.out; omega) | (have := HO.out.lo; have := HKh.out; have := HKN.out; omega) | (have := HO.out.lo; have := HR1.out; omega) | (have := HN.out.lo; have := HR1.out; omega) | (have := HKN.out; have := HKh.out; omega) | (have := HOl.out; have := HKh.out; have := HKN.out; omega) | (have := HKN.out; have := HR1.out; omega) | (have := HOl.out; omega) | (have := HN.out.lo; have := HOl.out; have := HR1.out; omega) | (have := HKh.out; have := HOl.out; have := HR1.out; omega))) (fun hm => by have := HM.out.hi _ hm; omega) (fun hm => by have := HM.out.hi _ hm; have := HKN.out; omega)⟩⟩
  · have hz' : (le == 0) = false := by simpa using hz
    obtain ⟨PR1, PR2⟩ := PR
    obtain ⟨rfl, rfl⟩ : PR1 = _ ∧ PR2 = _ := by have := HE.out.trans (if_pos hz); exact ⟨congrArg Prod.fst this, congrArg Prod.snd this⟩
    clear HE
    clear HLZ
    go_wp2_with fail
    refine (bad_any le _).mono ?_
    rintro e w5 ⟨rfl, hb⟩
    replace HX := Lib.hid (HX.out.below hb)
    clear hb
    obtain ⟨_, ⟨r0, r1, r2, r3⟩, rh⟩ := At.four HX.out.r
    obtain ⟨rc0, rc1, rc2, rc3⟩ := (At.four HX.out.r).1
    go_wp2_with fail
    generalize hwB : (((w5.setCell ⟨W.heap.size + 1, 0, none⟩ (.int .i64 le)).setCell ⟨W.heap.size + 1, 1, none⟩ (.int .i64 0)).setCell ⟨W.heap.size + 1, 2, none⟩ (.string ⟨#[]⟩)).setCell ⟨W.heap.size + 1, 3, none⟩ (.nilFunc) = w9 at *
    have HP : Bx2 W w9 W.heap.size (W.heap.size + 1) cs [.int .i64 le, .int .i64 0, .string ⟨#[]⟩, .nilFunc] := by rw [← hwB]; exact HX.out.putR [.int .i64 le, .int .i64 0, .string ⟨#[]⟩, .nilFunc] rfl
    skip
    clear r0 r1 r2 r3 rc0 rc1 rc2 rc3
    obtain ⟨⟨q0, q1, q2, q3⟩, _, _⟩ := At.four HP.r
    exact bodyPost_ret (v := .agg #[.int .i64 le, .int .i64 0, .string ⟨#[]⟩, .nilFunc]) (by simp [results, Tryz.results72, go_sem, q0, q1, q2, q3]) rfl ⟨_, rfl, HP.bel, Or.inl ⟨rfl, rfl⟩⟩
end Go.Proofs.YtimhaidiclbnhaaGreat.Ver
/- Layer 46: the plans of wait; the closures of areas. -/
set_option linter.unusedSimpArgs false
set_option linter.unusedVariables false
set_option maxRecDepth 100000
namespace Go.Proofs.YtimhaidiclbnhaaGreat.Ver
open Go.ChangeShapes Go.WideShapes Go.ChangeAt Go.RowKit
open Des (Dv De Dn DIn DBlk DAns Vi At RowOf ints DSz)
open Ara (Ar ARow)
open Con (StrRow)

set_option maxHeartbeats 4000000 in
theorem wait_any (B : Nat) (l : Ly) (s : St) (p : Int) (o : Opr) (x : Ev) (W : World) :
    Calls Tryz.prog 78 #[stepV l.M p o x] W (PlanP B W l s ⟨0, 0, ⟨#[]⟩⟩ s) := by
  have HX := Lib.hid (Bx2.start W (stepC l.M p o x) [.int .i64 0, .int .i64 0, .string ⟨#[]⟩, .nilFunc] 122 114)
  unfold stepV
  obtain ⟨cs, hcs⟩ : ∃ cs, cs = stepC l.M p o x := ⟨_, rfl⟩
  have HCS := Lib.hid hcs
  rw [← hcs] at HX ⊢
  clear hcs
  go_enter Tryz.func78, Tryz.ntmps78
  go_upto_region 1 with (fail)
  generalize World.alloc _ (Obj.cells #[.int .i64 0, .int .i64 0, .string ⟨#[]⟩, .nilFunc] 114) = wc at *
  obtain ⟨_, ⟨r0, r1, r2, r3⟩, rh⟩ := At.four HX.out.r
  obtain ⟨rc0, rc1, rc2, rc3⟩ := (At.four HX.out.r).1
  go_wp2_with fail
  change bodyPost _ _ _ _ _ ((((wc.setCell ⟨W.heap.size + 1, 0, none⟩ (.int .i64 0)).setCell ⟨W.heap.size + 1, 1, none⟩ (.int .i64 0)).setCell ⟨W.heap.size + 1, 2, none⟩ (.string ⟨#[]⟩)).setCell ⟨W.heap.size + 1, 3, none⟩ (.nilFunc))
  generalize hwB : (((wc.setCell ⟨W.heap.size + 1, 0, none⟩ (.int .i64 0)).setCell ⟨W.heap.size + 1, 1, none⟩ (.int .i64 0)).setCell ⟨W.heap.size + 1, 2, none⟩ (.string ⟨#[]⟩)).setCell ⟨W.heap.size + 1, 3, none⟩ (.nilFunc) = w9 at *
  have HP : Bx2 W w9 W.heap.size (W.heap.size + 1) cs [.int .i64 0, .int .i64 0, .string ⟨#[]⟩, .nilFunc] := by rw [← hwB]; exact HX.out.putR [.int .i64 0, .int .i64 0, .string ⟨#[]⟩, .nilFunc] rfl
  skip
  clear r0 r1 r2 r3 rc0 rc1 rc2 rc3
  obtain ⟨⟨q0, q1, q2, q3⟩, _, _⟩ := At.four HP.r
  exact bodyPost_ret (v := .agg #[.int .i64 0, .int .i64 0, .string ⟨#[]⟩, .nilFunc]) (by simp [results, Tryz.results78, go_sem, q0, q1, q2, q3]) rfl ⟨_, rfl, HP.bel, Or.inl ⟨rfl, rfl⟩⟩
set_option maxHeartbeats 4000000 in
theorem clo108 (B : Nat) (l : Ly) (s : St) (p : Nat) (o : Opr) (x : Ev) (a : Option Addr) (c : Nat) (L : List Ar) (X T : Nat) (W : World) (h : Mm B W l s) (hp : p < s.ar.length) (hps : p < s.scr.length) (hn : s.scr.length ≤ 1000) (hT : At W T (stepC l.M (p : Int) o x)) (hX : At W X [.slice a L.length c]) (hs : ARow 0 a c L W) (ho : ∀ q, a = some q → q.block ∉ vx l) :
    Calls Tryz.prog 108 #[.pointer (some ⟨X, 0, none⟩), .pointer (some ⟨T, 0, none⟩)] W fun e w3 => ∃ x' ar' hs', e = .returned (.tuple #[]) ∧ Mm B w3 { l with x := x', ar := ar', hs := hs' } { s with ar := s.ar.set p L } ∧ Vk (vs l) W w3 := by
  have h' := h.below (Below.refl _ _).drew
  have t0 := (Des.At.drew hT).cell 0 (.pointer (some ⟨l.M, 0, none⟩)) rfl
  have t1 := (Des.At.drew hT).cell 1 (.int .i64 (p : Int)) rfl
  have x0 := (Des.At.drew hX).cell 0 (.slice a L.length c) rfl
  have mR := h'.cR
  have hpI : (p : Int) < (s.scr.length : Int) := by omega
  have hnI : (s.scr.length : Int) ≤ 1000 := by omega
  have z0 := h'.r.free p (by rw [slC_len]; exact hp)
  have z1 := h'.r.cell p _ (slC_at l.ar s.ar p hp)
  have z2 := h'.r.hi
  have HP := Lib.hid (h'.putR p hp a c L (arow_keep hs (Nat.le_refl _) (fun _ _ => rfl)) ho)
  have HV : Hid (Vk (vs l) W (W.drew.setCell ⟨l.R, p, none⟩ (.slice a L.length c))) := Lib.hid ((Vk.ofBelow (Below.refl _ _).drew).trans (Vk.set _ _ _ _ (mvs l).2.2.2.2.1))
  generalize (l.ar.getD p Sl.nil).a = za at z1
  generalize (s.ar.getD p []).length = zl at z1
  generalize (l.ar.getD p Sl.nil).c = zc at z1
  clear h h' hT hX hs ho hp hps hn
  go_enter Tryz.func108, Tryz.ntmps108
  go_wp2_with fail
  go_region
  go_wp2_with fail
  go_end0
  exact ⟨l.x, l.ar.set p ⟨a, c⟩, l.hs, rfl, HP.out, HV.out⟩
set_option maxHeartbeats 4000000 in
theorem clo110 (B : Nat) (l : Ly) (s : St) (p : Nat) (o : Opr) (x : Ev) (a : Option Addr) (c : Nat) (L : List Ar) (X T : Nat) (W : World) (h : Mm B W l s) (hp : p < s.ar.length) (hps : p < s.scr.length) (hn : s.scr.length ≤ 1000) (hT : At W T (stepC l.M (p : Int) o x)) (hX : At W X [.slice a L.length c]) (hs : ARow 0 a c L W) (ho : ∀ q, a = some q → q.block ∉ vx l) :
    Calls Tryz.prog 110 #[.pointer (some ⟨X, 0, none⟩), .pointer (some ⟨T, 0, none⟩)] W fun e w3 => ∃ x' ar' hs', e = .returned (.tuple #[]) ∧ Mm B w3 { l with x := x', ar := ar', hs := hs' } { s with ar := s.ar.set p L } ∧ Vk (vs l) W w3 := by
  have h' := h.below (Below.refl _ _).drew
  have t0 := (Des.At.drew hT).cell 0 (.pointer (some ⟨l.M, 0, none⟩)) rfl
  have t1 := (Des.At.drew hT).cell 1 (.int .i64 (p : Int)) rfl
  have x0 := (Des.At.drew hX).cell 0 (.slice a L.length c) rfl
  have mR := h'.cR
  have hpI : (p : Int) < (s.scr.length : Int) := by omega
  have hnI : (s.scr.length : Int) ≤ 1000 := by omega
  have z0 := h'.r.free p (by rw [slC_len]; exact hp)
  have z1 := h'.r.cell p _ (slC_at l.ar s.ar p hp)
  have z2 := h'.r.hi
  have HP := Lib.hid (h'.putR p hp a c L (arow_keep hs (Nat.le_refl _) (fun _ _ => rfl)) ho)
  have HV : Hid (Vk (vs l) W (W.drew.setCell ⟨l.R, p, none⟩ (.slice a L.length c))) := Lib.hid ((Vk.ofBelow (Below.refl _ _).drew).trans (Vk.set _ _ _ _ (mvs l).2.2.2.2.1))
  generalize (l.ar.getD p Sl.nil).a = za at z1
  generalize (s.ar.getD p []).length = zl at z1
  generalize (l.ar.getD p Sl.nil).c = zc at z1
  clear h h' hT hX hs ho hp hps hn
  go_enter Tryz.func110, Tryz.ntmps110
  go_wp2_with fail
  go_region
  go_wp2_with fail
  go_end0
  exact ⟨l.x, l.ar.set p ⟨a, c⟩, l.hs, rfl, HP.out, HV.out⟩
end Go.Proofs.YtimhaidiclbnhaaGreat.Ver
