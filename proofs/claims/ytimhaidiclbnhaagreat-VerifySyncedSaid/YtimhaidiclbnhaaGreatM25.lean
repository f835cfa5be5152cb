/- Layer 46, shared texts of this seat, part 25. -/
import Derived.Test.YtimhaidiclbnhaaGreatM23
/- Layer 46: the plan of open. -/
set_option linter.unusedSimpArgs false
set_option linter.unusedVariables false
set_option maxRecDepth 100000
namespace Go.Proofs.YtimhaidiclbnhaaGreat.Ver
open Go.ChangeShapes Go.WideShapes Go.ChangeAt Go.RowKit
open Des (Dv De Dn DIn DBlk DAns Vi At RowOf ints DSz)
open Ara (Ar ARow)
open Con (StrRow)

def openedR (s : St) (p : Int) (o : Opr) : Res × St :=
  if o.fi < 0 ∨ (s.fs.length : Int) ≤ o.fi then (badR 2, s) else
  if Des.openE s.d p o.fi o.fl (s.fa.getD o.fi.toNat 0) = 0 then (⟨0, Des.openF s.d p o.fi o.fl (s.fa.getD o.fi.toNat 0), ⟨#[]⟩⟩, { s with d := Des.openD s.d p o.fi o.fl (s.fa.getD o.fi.toNat 0) }) else (badR (Des.openE s.d p o.fi o.fl (s.fa.getD o.fi.toNat 0)), s)
set_option maxHeartbeats 8000000 in
theorem opened_any (B : Nat) (l : Ly) (s : St) (p : Int) (o : Opr) (x : Ev) (W : World) (h : Mm B W l s) (hr : Des.Rt s.d) (hn : s.fs.length ≤ 1000) (hfa : s.fa.length = s.fs.length) :
    Calls Tryz.prog 65 #[stepV l.M p o x] W (PlanP B W l s (openedR s p o).1 (openedR s p o).2) := by
  have HC : Hid (∀ c W', Below W.heap.size W W' → Calls Tryz.prog 87 #[.agg #[.slice l.x.oa l.x.o.length l.x.oc, .slice l.x.ta l.x.t.length l.x.tc], .int .i64 p, .int .i64 o.fi, .int .i64 o.fl, .int .i64 c] W' (fun e w' => ∃ y : Dv, e = .returned (.tuple #[.agg #[.slice y.oa y.o.length y.oc, .slice y.ta y.t.length y.tc], .int .i64 (Des.openF s.d p o.fi o.fl c), .int .i64 (Des.openE s.d p o.fi o.fl c)]) ∧ y.pl = Des.openD s.d p o.fi o.fl c ∧ DAns W' l.x w' y ∧ Below W'.heap.size W' w')) := Lib.hid fun c W' hb => by
    have h1 := Des.open_v l.x p o.fi o.fl c W' (h.below hb).im.di.di (h.dz hr)
    rw [h.im.dp] at h1
    exact h1
  have HM := Lib.hid h
  have HE : Hid (openedR s p o = if o.fi < 0 ∨ (s.fs.length : Int) ≤ o.fi then (badR 2, s) else if Des.openE s.d p o.fi o.fl (s.fa.getD o.fi.toNat 0) = 0 then (⟨0, Des.openF s.d p o.fi o.fl (s.fa.getD o.fi.toNat 0), ⟨#[]⟩⟩, { s with d := Des.openD s.d p o.fi o.fl (s.fa.getD o.fi.toNat 0) }) else (badR (Des.openE s.d p o.fi o.fl (s.fa.getD o.fi.toNat 0)), s)) := Lib.hid rfl
  have HX := Lib.hid (Bx2.start W (stepC l.M p o x) [.int .i64 0, .int .i64 0, .string ⟨#[]⟩, .nilFunc] 122 114)
  have hmf : ∀ (fn : Fn) (first cap : Array Value) (w : World), (Instr.makeFunc fn first cap).run Tryz.prog w = .ok (.func fn first cap) w := fun _ _ _ _ => rfl
  have hnI : (s.fs.length : Int) ≤ 1000 := by omega
  unfold stepV
  obtain ⟨cs, hcs⟩ : ∃ cs, cs = stepC l.M p o x := ⟨_, rfl⟩
  have HCS := Lib.hid hcs
  rw [← hcs] at HX ⊢
  clear hcs h
  generalize openedR s p o = PR at *
  go_enter Tryz.func65, Tryz.ntmps65
  go_upto_region 1 with (fail)
  generalize World.alloc _ (Obj.cells #[.int .i64 0, .int .i64 0, .string ⟨#[]⟩, .nilFunc] 114) = W0 at *
  go_cut [21] (fun v wx => v = .bool (decide (o.fi < 0 ∨ (s.fs.length : Int) ≤ o.fi)) ∧ Hid (Bx2 W wx W.heap.size (W.heap.size + 1) cs [.int .i64 0, .int .i64 0, .string ⟨#[]⟩, .nilFunc]))
  case first =>
    have t0 := HX.out.t.cell 0 (.pointer (some ⟨l.M, 0, none⟩)) (by rw [HCS.out]; rfl); have t4 := HX.out.t.cell 4 (.int .i64 o.fi) (by rw [HCS.out]; rfl); have mF := (HM.out.below HX.out.bel).cF
    by_cases h1 : o.fi < 0
    · go_wp2_with fail
      go_quiet (fail)
      go_wp2_with fail
      go_meet
      exact ⟨by simp [h1], Lib.hid (HX.out.below (below_drewN (Below.refl _ _) nq))⟩
    · by_cases h2 : (s.fs.length : Int) ≤ o.fi
      · go_wp2_with fail
        go_quiet (fail)
        go_wp2_with fail
        go_meet
        exact ⟨by simp [h1, h2], Lib.hid (HX.out.below (below_drewN (Below.refl _ _) nq))⟩
      · go_wp2_with fail
        go_quiet (fail)
        go_wp2_with fail
        go_meet
        exact ⟨by simp [h1, h2], Lib.hid (HX.out.below (below_drewN (Below.refl _ _) nq))⟩
  case rest =>
  clear HX
  obtain ⟨rfl, HX⟩ := hcut
  go_upto_if 21 with (fail)
  by_cases hc : o.fi < 0 ∨ (s.fs.length : Int) ≤ o.fi
  · have hd : decide (o.fi < 0 ∨ (s.fs.length : Int) ≤ o.fi) = true := decide_eq_true hc
    rw [hd]
    obtain ⟨PR1, PR2⟩ := PR
    obtain ⟨rfl, rfl⟩ : PR1 = badR 2 ∧ PR2 = s := by have := HE.out.trans (if_pos hc); exact ⟨congrArg Prod.fst this, congrArg Prod.snd this⟩
    clear HE hc hd HC
    go_wp2_with fail
    refine (bad_any 2 _).mono ?_
    rintro e w5 ⟨rfl, hb⟩
    replace HX := Lib.hid (HX.out.below hb)
    clear hb
    obtain ⟨_, ⟨r0, r1, r2, r3⟩, rh⟩ := At.four HX.out.r
    obtain ⟨rc0, rc1, rc2, rc3⟩ := (At.four HX.out.r).1
    go_wp2_with fail
    generalize hwB : (((w5.setCell ⟨W.heap.size + 1, 0, none⟩ (.int .i64 2)).setCell ⟨W.heap.size + 1, 1, none⟩ (.int .i64 0)).setCell ⟨W.heap.size + 1, 2, none⟩ (.string ⟨#[]⟩)).setCell ⟨W.heap.size + 1, 3, none⟩ (.nilFunc) = w9 at *
    have HP : Bx2 W w9 W.heap.size (W.heap.size + 1) cs [.int .i64 2, .int .i64 0, .string ⟨#[]⟩, .nilFunc] := by rw [← hwB]; exact HX.out.putR [.int .i64 2, .int .i64 0, .string ⟨#[]⟩, .nilFunc] rfl
    skip
    clear r0 r1 r2 r3 rc0 rc1 rc2 rc3
    obtain ⟨⟨q0, q1, q2, q3⟩, _, _⟩ := At.four HP.r
    exact bodyPost_ret (v := .agg #[.int .i64 2, .int .i64 0, .string ⟨#[]⟩, .nilFunc]) (by simp [results, Tryz.results65, go_sem, q0, q1, q2, q3]) rfl ⟨_, rfl, HP.bel, Or.inl ⟨rfl, rfl⟩⟩
  · have hd : decide (o.fi < 0 ∨ (s.fs.length : Int) ≤ o.fi) = false := decide_eq_false hc
    rw [hd]
    have HE2 := Lib.hid (HE.out.trans (if_neg hc))
    clear HE
    obtain ⟨f, hf⟩ : ∃ f : Nat, o.fi = (f : Int) := ⟨o.fi.toNat, by omega⟩
    have HF := Lib.hid hf
    rw [hf, Int.toNat_natCast] at HE2
    have hfn : f < s.fs.length := by omega
    have hfI : (f : Int) < (s.fs.length : Int) := by omega
    rw [hf] at HC
    clear hc hd hf
    generalize hv : s.fa.getD f 0 = v at *
    have HVV0 := Lib.hid hv
    clear hv
    replace HC := Lib.hid (HC.out v)
    generalize Des.openE s.d p (f : Int) o.fl v = er at *
    generalize Des.openF s.d p (f : Int) o.fl v = sv at *
    generalize Des.openD s.d p (f : Int) o.fl v = DD at *
    go_upto_region 3 with (fail)
    obtain ⟨W1, hW1⟩ : ∃ W1, W1 = wc := ⟨_, rfl⟩
    subst hW1
    have HM1 := Lib.hid (HM.out.below HX.out.bel)
    have HR1 : Hid (W.heap.size + 1 < W1.heap.size) := Lib.hid HX.out.r.hi
    go_cut [3, 4, 5] (fun s3 s4 s5 wx => ∃ (K : Nat) (y : Dv), s3 = .pointer (some ⟨K, 0, none⟩) ∧ s4 = .int .i64 sv ∧ s5 = .int .i64 er ∧ Hid (y.pl = DD) ∧ Hid (Nb W1 wx K [.slice y.oa y.o.length y.oc, .slice y.ta y.t.length y.tc]) ∧ Hid (DAns W1 l.x wx y))
    case first =>
      have HX0 := HX
      replace HX := Lib.hid (HX.out.below (Below.refl _ _).drew)
      have hT : W.heap.size < W1.heap.size := HX0.out.t.hi
      have hM : l.M < W1.heap.size := (HM.out.below HX0.out.bel).m.hi
      have e1 : ¬ W1.heap.size = W.heap.size := by omega
      have e2 : ¬ W.heap.size = W1.heap.size := by omega
      have e3 : ¬ W1.heap.size = l.M := by omega
      have e4 : ¬ l.M = W1.heap.size := by omega
      have hmA : l.A < W1.heap.size := HM1.out.hi _ (by simp [vs])
      have f1A : ¬ W1.heap.size = l.A := by omega
      have f2A : ¬ l.A = W1.heap.size := by omega
      have yt0 := HX0.out.t.cell 0 (.pointer (some ⟨l.M, 0, none⟩)) (by rw [HCS.out]; rfl); have yt1 := HX0.out.t.cell 1 (.int .i64 p) (by rw [HCS.out]; rfl); have yt4 := HX0.out.t.cell 4 (.int .i64 (f : Int)) (by rw [HCS.out, ← HF.out]; rfl); have yt5 := HX0.out.t.cell 5 (.int .i64 o.fl) (by rw [HCS.out]; rfl); obtain ⟨ymO, ymP⟩ := (HM.out.below HX0.out.bel).cO; have ymA := (HM.out.below HX0.out.bel).cA; have ya := (HM.out.below HX0.out.bel).a.cell f (.int .i64 v) (by rw [← HVV0.out]; exact Des.ints_at s.fa f (by omega))
      have t0 := HX.out.t.cell 0 (.pointer (some ⟨l.M, 0, none⟩)) (by rw [HCS.out]; rfl); have t1 := HX.out.t.cell 1 (.int .i64 p) (by rw [HCS.out]; rfl); have t4 := HX.out.t.cell 4 (.int .i64 (f : Int)) (by rw [HCS.out, ← HF.out]; rfl); have t5 := HX.out.t.cell 5 (.int .i64 o.fl) (by rw [HCS.out]; rfl); obtain ⟨mO, mP⟩ := (HM.out.below HX.out.bel).cO; have mA := (HM.out.below HX.out.bel).cA; have a := (HM.out.below HX.out.bel).a.cell f (.int .i64 v) (by rw [← HVV0.out]; exact Des.ints_at s.fa f (by omega))
      go_region_held3 (fun w' => w'.cell? ⟨W.heap.size, 0, none⟩ = some (.pointer (some ⟨l.M, 0, none⟩)) ∧ w'.cell? ⟨W.heap.size, 1, none⟩ = some (.int .i64 p) ∧ w'.cell? ⟨W.heap.size, 4, none⟩ = some (.int .i64 (f : Int)) ∧ w'.cell? ⟨W.heap.size, 5, none⟩ = some (.int .i64 o.fl) ∧ w'.cell? ⟨l.M, 24, none⟩ = some (.slice l.x.oa l.x.o.length l.x.oc) ∧ w'.cell? ⟨l.M, 25, none⟩ = some (.slice l.x.ta l.x.t.length l.x.tc) ∧ w'.cell? ⟨l.M, 22, none⟩ = some (.slice (some ⟨l.A, 0, none⟩) s.fs.length s.fs.length) ∧ w'.cell? ⟨l.A, f, none⟩ = some (.int .i64 v)) (go_keep) (first | (go_at_call 87; refine (HC.out _ (by first | exact HX.out.bel | exact (HX.out.below ((Below.refl _ _).alloc (Nat.le_refl _) _)).bel)).mono ?_; rintro e w2 ⟨y, rfl, hpl, ha, hb⟩; have HPL := Lib.hid hpl; have HDA := Lib.hid ha; clear hpl ha; (first | (have HA := Lib.hid hb; replace HX := Lib.hid (HX.out.below hb)) | (have HB := Lib.hid hb; obtain ⟨_, _, f0, f1, fh⟩ := Des.At.two (((At.new W1 [.slice none 0 0, .slice none 0 0] 83).drew).below hb (by show W1.heap.size < (W1.alloc _).heap.size; rw [Des.alloc_size]; omega)); replace HX := Lib.hid ((HX.out.below ((Below.refl _ _).alloc (Nat.le_refl _) _)).below hb))); clear hb t0 t1 t4 t5 mO mP mA a; have t0 := HX.out.t.cell 0 (.pointer (some ⟨l.M, 0, none⟩)) (by rw [HCS.out]; rfl); have t1 := HX.out.t.cell 1 (.int .i64 p) (by rw [HCS.out]; rfl); have t4 := HX.out.t.cell 4 (.int .i64 (f : Int)) (by rw [HCS.out, ← HF.out]; rfl); have t5 := HX.out.t.cell 5 (.int .i64 o.fl) (by rw [HCS.out]; rfl); obtain ⟨mO, mP⟩ := (HM.out.below HX.out.bel).cO; have mA := (HM.out.below HX.out.bel).cA; have a := (HM.out.below HX.out.bel).a.cell f (.int .i64 v) (by rw [← HVV0.out]; exact Des.ints_at s.fa f (by omega))))
      all_goals
        go_wp2_with fail
        go_meet
        first | exact ⟨_, y, rfl, rfl, rfl, HPL, Lib.hid (Nb.after ((Below.refl W1.heap.size W1).drew.trans HA.out) [.slice y.oa y.o.length y.oc, .slice y.ta y.t.length y.tc] 83), Lib.hid (dy_after ((Below.refl W1.heap.size W1).drew.trans HA.out) HDA.out _)⟩ | exact ⟨_, y, rfl, rfl, rfl, HPL, Lib.hid (Nb.before (T := 83) (zs := [.slice none 0 0, .slice none 0 0]) ((Below.refl (W1.alloc _).heap.size (W1.alloc _)).drew.trans HB.out) [.slice y.oa y.o.length y.oc, .slice y.ta y.t.length y.tc] rfl), Lib.hid (dy_before HM1.out HDA.out [.slice y.oa y.o.length y.oc, .slice y.ta y.t.length y.tc])⟩
    case rest =>
    obtain ⟨K, y, rfl, rfl, rfl, HPL, HN, HV⟩ := hcut
    replace HX := Lib.hid (HX.out.below HN.out.bel)
    clear HC
    obtain ⟨PR1, PR2⟩ := PR
    by_cases hz : er = 0
    · subst hz
      obtain ⟨rfl, rfl⟩ : PR1 = _ ∧ PR2 = _ := by have := HE2.out.trans (if_pos rfl); exact ⟨congrArg Prod.fst this, congrArg Prod.snd this⟩
      clear HE2
      obtain ⟨_, ⟨r0, r1, r2, r3⟩, rh⟩ := At.four HX.out.r
      obtain ⟨rc0, rc1, rc2, rc3⟩ := (At.four HX.out.r).1
      go_wp2_with fail
      generalize hwB : (((wc.setCell ⟨W.heap.size + 1, 0, none⟩ (.int .i64 0)).setCell ⟨W.heap.size + 1, 1, none⟩ (.int .i64 sv)).setCell ⟨W.heap.size + 1, 2, none⟩ (.string ⟨#[]⟩)).setCell ⟨W.heap.size + 1, 3, none⟩ (.func (.func 88) #[] #[.pointer (some ⟨K, 0, none⟩), .pointer (some ⟨W.heap.size, 0, none⟩)]) = w9 at *
      have HP : Bx2 W w9 W.heap.size (W.heap.size + 1) cs [.int .i64 0, .int .i64 sv, .string ⟨#[]⟩, .func (.func 88) #[] #[.pointer (some ⟨K, 0, none⟩), .pointer (some ⟨W.heap.size, 0, none⟩)]] := by rw [← hwB]; exact HX.out.putR [.int .i64 0, .int .i64 sv, .string ⟨#[]⟩, .func (.func 88) #[] #[.pointer (some ⟨K, 0, none⟩), .pointer (some ⟨W.heap.size, 0, none⟩)]] rfl
      skip
      have HKK : Hid (At w9 K (d2 y)) := Lib.hid (by rw [← hwB]; exact HN.out.at'.apart (by have := HN.out.lo; have := HR1.out; omega) 0 [.int .i64 0, .int .i64 sv, .string ⟨#[]⟩, .func (.func 88) #[] #[.pointer (some ⟨K, 0, none⟩), .pointer (some ⟨W.heap.size, 0, none⟩)]])
      have HVV : Hid (Vi w9 (vx l) y) := Lib.hid (by rw [← hwB]; exact dn_vi HM.out (by omega) HR1.out HV.out [.int .i64 0, .int .i64 sv, .string ⟨#[]⟩, .func (.func 88) #[] #[.pointer (some ⟨K, 0, none⟩), .pointer (some ⟨W.heap.size, 0, none⟩)]])
      clear r0 r1 r2 r3 rc0 rc1 rc2 rc3
      obtain ⟨⟨q0, q1, q2, q3⟩, _, _⟩ := At.four HP.r
      exact bodyPost_ret (v := .agg #[.int .i64 0, .int .i64 sv, .string ⟨#[]⟩, .func (.func 88) #[] #[.pointer (some ⟨K, 0, none⟩), .pointer (some ⟨W.heap.size, 0, none⟩)]]) (by simp [results, Tryz.results65, go_sem, q0, q1, q2, q3]) rfl ⟨_, rfl, HP.bel, Or.inr ⟨88, _, rfl, fun _ _ => rfl, fun W2 hf2 => by rw [← HPL.out]; exact clo88 B l s p o x y K W.heap.size W2 (hf2.mm HP.bel) (by rw [← HCS.out]; exact hf2.at HP.t HP.lo) (hf2.at HKK.out (by first | omega | (have := HKN.out; omega) | (have := HO.out.lo; have := HKh.out; have := HKN.out; omega) | (have := HO.out.lo; have := HR1.out; omega) | (have := HN.out.lo; have := HR1.out; omega) | (have := HKN.out; have := HKh.out; omega) | (have := HOl.out; have := HKh.out; have := HKN.out; omega) | (have := HKN.out; have := HR1.out; omega) | (have := HOl.out; omega) | (have := HN.out.lo; have := HOl.out; have := HR1.out; omega) | (have := HKh.out; have := HOl.out; have := HR1.out; omega))) (hf2.vi HVV.out (fun b hb => (HV.out.blk b hb).imp id (by have := HR1.out; omega)))⟩⟩
    · obtain ⟨rfl, rfl⟩ : PR1 = _ ∧ PR2 = _ := by have := HE2.out.trans (if_neg hz); exact ⟨congrArg Prod.fst this, congrArg Prod.snd this⟩
      have hz' : (er == 0) = false := by simpa using hz
      clear HE2
      go_wp2_with fail
      refine (bad_any er _).mono ?_
      rintro e w5 ⟨rfl, hb⟩
      replace HX := Lib.hid (HX.out.below hb)
      clear hb
      obtain ⟨_, ⟨r0, r1, r2, r3⟩, rh⟩ := At.four HX.out.r
      obtain ⟨rc0, rc1, rc2, rc3⟩ := (At.four HX.out.r).1
      go_wp2_with fail
      generalize hwB : (((w5.setCell ⟨W.heap.size + 1, 0, none⟩ (.int .i64 er)).setCell ⟨W.heap.size + 1, 1, none⟩ (.int .i64 0)).setCell ⟨W.heap.size + 1, 2, none⟩ (.string ⟨#[]⟩)).setCell ⟨W.heap.size + 1, 3, none⟩ (.nilFunc) = w9 at *
      have HP : Bx2 W w9 W.heap.size (W.heap.size + 1) cs [.int .i64 er, .int .i64 0, .string ⟨#[]⟩, .nilFunc] := by rw [← hwB]; exact HX.out.putR [.int .i64 er, .int .i64 0, .string ⟨#[]⟩, .nilFunc] rfl
      skip
      clear r0 r1 r2 r3 rc0 rc1 rc2 rc3
      obtain ⟨⟨q0, q1, q2, q3⟩, _, _⟩ := At.four HP.r
      exact bodyPost_ret (v := .agg #[.int .i64 er, .int .i64 0, .string ⟨#[]⟩, .nilFunc]) (by simp [results, Tryz.results65, go_sem, q0, q1, q2, q3]) rfl ⟨_, rfl, HP.bel, Or.inl ⟨rfl, rfl⟩⟩
end Go.Proofs.YtimhaidiclbnhaaGreat.Ver
