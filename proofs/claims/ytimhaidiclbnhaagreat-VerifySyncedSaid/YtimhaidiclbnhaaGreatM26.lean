/- Layer 46, shared texts of this seat, part 26. -/
import Derived.Test.YtimhaidiclbnhaaGreatM23
/- Layer 46: the plans of dup, close. -/
set_option linter.unusedSimpArgs false
set_option linter.unusedVariables false
set_option maxRecDepth 100000
namespace Go.Proofs.YtimhaidiclbnhaaGreat.Ver
open Go.ChangeShapes Go.WideShapes Go.ChangeAt Go.RowKit
open Des (Dv De Dn DIn DBlk DAns Vi At RowOf ints DSz)
open Ara (Ar ARow)
open Con (StrRow)

def dupR (s : St) (p : Int) (o : Opr) : Res × St := if Des.dupE s.d p o.fd = 0 then (⟨0, Des.dupF s.d p o.fd, ⟨#[]⟩⟩, { s with d := Des.dupD s.d p o.fd }) else (badR (Des.dupE s.d p o.fd), s)
set_option maxHeartbeats 8000000 in
theorem dup_any (B : Nat) (l : Ly) (s : St) (p : Int) (o : Opr) (x : Ev) (W : World) (h : Mm B W l s) (hr : Des.Rt s.d) :
    Calls Tryz.prog 77 #[stepV l.M p o x] W (PlanP B W l s (dupR s p o).1 (dupR s p o).2) := by
  have HC : Hid (∀ W', Below W.heap.size W W' → Calls Tryz.prog 113 #[.agg #[.slice l.x.oa l.x.o.length l.x.oc, .slice l.x.ta l.x.t.length l.x.tc], .int .i64 p, .int .i64 o.fd] W' (fun e w' => ∃ y : Dv, e = .returned (.tuple #[.agg #[.slice y.oa y.o.length y.oc, .slice y.ta y.t.length y.tc], .int .i64 (Des.dupF s.d p o.fd), .int .i64 (Des.dupE s.d p o.fd)]) ∧ y.pl = Des.dupD s.d p o.fd ∧ DAns W' l.x w' y ∧ Below W'.heap.size W' w')) := Lib.hid fun W' hb => by
    have h1 := Des.dup_v l.x p o.fd W' (h.below hb).im.di.di (h.dz hr)
    rw [h.im.dp] at h1
    exact h1
  have HM := Lib.hid h
  have HE : Hid (dupR s p o = if Des.dupE s.d p o.fd = 0 then (⟨0, Des.dupF s.d p o.fd, ⟨#[]⟩⟩, { s with d := Des.dupD s.d p o.fd }) else (badR (Des.dupE s.d p o.fd), s)) := Lib.hid rfl
  have HX := Lib.hid (Bx2.start W (stepC l.M p o x) [.int .i64 0, .int .i64 0, .string ⟨#[]⟩, .nilFunc] 122 114)
  have hmf : ∀ (fn : Fn) (first cap : Array Value) (w : World), (Instr.makeFunc fn first cap).run Tryz.prog w = .ok (.func fn first cap) w := fun _ _ _ _ => rfl
  unfold stepV
  obtain ⟨cs, hcs⟩ : ∃ cs, cs = stepC l.M p o x := ⟨_, rfl⟩
  have HCS := Lib.hid hcs
  rw [← hcs] at HX ⊢
  clear hcs h
  generalize dupR s p o = PR at *
  generalize Des.dupE s.d p o.fd = er at *
  generalize Des.dupF s.d p o.fd = sv at *
  generalize Des.dupD s.d p o.fd = DD at *
  go_enter Tryz.func77, Tryz.ntmps77
  go_upto_region 1 with (fail)
  generalize World.alloc _ (Obj.cells #[.int .i64 0, .int .i64 0, .string ⟨#[]⟩, .nilFunc] 114) = W1 at *
  have HM1 := Lib.hid (HM.out.below HX.out.bel)
  have HR1 : Hid (W.heap.size + 1 < W1.heap.size) := Lib.hid HX.out.r.hi
  go_cut [3, 4, 5] (fun s3 s4 s5 wx => ∃ (K : Nat) (y : Dv), s3 = .pointer (some ⟨K, 0, none⟩) ∧ s4 = .int .i64 sv ∧ s5 = .int .i64 er ∧ Hid (y.pl = DD) ∧ Hid (Nb W1 wx K [.slice y.oa y.o.length y.oc, .slice y.ta y.t.length y.tc]) ∧ Hid (DAns W1 l.x wx y))
  case first =>
    have HX0 := HX
    replace HX := Lib.hid (HX.out.below (Below.refl _ _).drew)
    have hT : W.heap.size < W1.heap.size := HX0.out.t.hi
    have hM : l.M < W1.heap.size := (HM.out.below HX0.out.bel).m.hi
    have e1 : ¬ W1.heap.size = W.heap.size := by omega
    have e2 : ¬ W.heap.size = W1.heap.size := by omega
    have e3 : ¬ W1.heap.size = l.M := by omega
    have e4 : ¬ l.M = W1.heap.size := by omega
    have yt0 := HX0.out.t.cell 0 (.pointer (some ⟨l.M, 0, none⟩)) (by rw [HCS.out]; rfl); have yt1 := HX0.out.t.cell 1 (.int .i64 p) (by rw [HCS.out]; rfl); have yt3 := HX0.out.t.cell 3 (.int .i64 o.fd) (by rw [HCS.out]; rfl); obtain ⟨ymO, ymP⟩ := (HM.out.below HX0.out.bel).cO
    have t0 := HX.out.t.cell 0 (.pointer (some ⟨l.M, 0, none⟩)) (by rw [HCS.out]; rfl); have t1 := HX.out.t.cell 1 (.int .i64 p) (by rw [HCS.out]; rfl); have t3 := HX.out.t.cell 3 (.int .i64 o.fd) (by rw [HCS.out]; rfl); obtain ⟨mO, mP⟩ := (HM.out.below HX.out.bel).cO
    go_region_held3 (fun w' => w'.cell? ⟨W.heap.size, 0, none⟩ = some (.pointer (some ⟨l.M, 0, none⟩)) ∧ w'.cell? ⟨W.heap.size, 1, none⟩ = some (.int .i64 p) ∧ w'.cell? ⟨W.heap.size, 3, none⟩ = some (.int .i64 o.fd) ∧ w'.cell? ⟨l.M, 24, none⟩ = some (.slice l.x.oa l.x.o.length l.x.oc) ∧ w'.cell? ⟨l.M, 25, none⟩ = some (.slice l.x.ta l.x.t.length l.x.tc)) (go_keep) (first | (go_at_call 113; refine (HC.out _ (by first | exact HX.out.bel | exact (HX.out.below ((Below.refl _ _).alloc (Nat.le_refl _) _)).bel)).mono ?_; rintro e w2 ⟨y, rfl, hpl, ha, hb⟩; have HPL := Lib.hid hpl; have HDA := Lib.hid ha; clear hpl ha; (first | (have HA := Lib.hid hb; replace HX := Lib.hid (HX.out.below hb)) | (have HB := Lib.hid hb; obtain ⟨_, _, f0, f1, fh⟩ := Des.At.two (((At.new W1 [.slice none 0 0, .slice none 0 0] 83).drew).below hb (by show W1.heap.size < (W1.alloc _).heap.size; rw [Des.alloc_size]; omega)); replace HX := Lib.hid ((HX.out.below ((Below.refl _ _).alloc (Nat.le_refl _) _)).below hb))); clear hb t0 t1 t3 mO mP; have t0 := HX.out.t.cell 0 (.pointer (some ⟨l.M, 0, none⟩)) (by rw [HCS.out]; rfl); have t1 := HX.out.t.cell 1 (.int .i64 p) (by rw [HCS.out]; rfl); have t3 := HX.out.t.cell 3 (.int .i64 o.fd) (by rw [HCS.out]; rfl); obtain ⟨mO, mP⟩ := (HM.out.below HX.out.bel).cO))
    all_goals
      go_wp2_with fail
      go_meet
      first | exact ⟨_, y, rfl, rfl, rfl, HPL, Lib.hid (Nb.after ((Below.refl W1.heap.size W1).drew.trans HA.out) [.slice y.oa y.o.length y.oc, .slice y.ta y.t.length y.tc] 83), Lib.hid (dy_after ((Below.refl W1.heap.size W1).drew.trans HA.out) HDA.out _)⟩ | exact ⟨_, y, rfl, rfl, rfl, HPL, Lib.hid (Nb.before (T := 83) (zs := [.slice none 0 0, .slice none 0 0]) ((Below.refl (W1.alloc _).heap.size (W1.alloc _)).drew.trans HB.out) [.slice y.oa y.o.length y.oc, .slice y.ta y.t.length y.tc] rfl), Lib.hid (dy_before HM1.out HDA.out [.slice y.oa y.o.length y.oc, .slice y.ta y.t.length y.tc])⟩
  case rest =>
  obtain ⟨K, y, rfl, rfl, rfl, HPL, HN, HV⟩ := hcut
  replace HX := Lib.hid (HX.out.below HN.out.bel)
  clear HC
  by_cases hz : er = 0
  · subst hz
    have HPR : Hid (PR = _) := Lib.hid (HE.out.trans (if_pos rfl))
    obtain ⟨PR1, PR2⟩ := PR
    obtain ⟨rfl, rfl⟩ : PR1 = _ ∧ PR2 = _ := by have := HPR.out; exact ⟨congrArg Prod.fst this, congrArg Prod.snd this⟩
    clear HE HPR
    obtain ⟨_, ⟨r0, r1, r2, r3⟩, rh⟩ := At.four HX.out.r
    obtain ⟨rc0, rc1, rc2, rc3⟩ := (At.four HX.out.r).1
    go_wp2_with fail
    generalize hwB : (((wc.setCell ⟨W.heap.size + 1, 0, none⟩ (.int .i64 0)).setCell ⟨W.heap.size + 1, 1, none⟩ (.int .i64 sv)).setCell ⟨W.heap.size + 1, 2, none⟩ (.string ⟨#[]⟩)).setCell ⟨W.heap.size + 1, 3, none⟩ (.func (.func 114) #[] #[.pointer (some ⟨K, 0, none⟩), .pointer (some ⟨W.heap.size, 0, none⟩)]) = w9 at *
    have HP : Bx2 W w9 W.heap.size (W.heap.size + 1) cs [.int .i64 0, .int .i64 sv, .string ⟨#[]⟩, .func (.func 114) #[] #[.pointer (some ⟨K, 0, none⟩), .pointer (some ⟨W.heap.size, 0, none⟩)]] := by rw [← hwB]; exact HX.out.putR [.int .i64 0, .int .i64 sv, .string ⟨#[]⟩, .func (.func 114) #[] #[.pointer (some ⟨K, 0, none⟩), .pointer (some ⟨W.heap.size, 0, none⟩)]] rfl
    skip
    have HKK : Hid (At w9 K (d2 y)) := Lib.hid (by rw [← hwB]; exact HN.out.at'.apart (by have := HN.out.lo; have := HR1.out; omega) 0 [.int .i64 0, .int .i64 sv, .string ⟨#[]⟩, .func (.func 114) #[] #[.pointer (some ⟨K, 0, none⟩), .pointer (some ⟨W.heap.size, 0, none⟩)]])
    have HVV : Hid (Vi w9 (vx l) y) := Lib.hid (by rw [← hwB]; exact dn_vi HM.out (by omega) HR1.out HV.out [.int .i64 0, .int .i64 sv, .string ⟨#[]⟩, .func (.func 114) #[] #[.pointer (some ⟨K, 0, none⟩), .pointer (some ⟨W.heap.size, 0, none⟩)]])
    clear r0 r1 r2 r3 rc0 rc1 rc2 rc3
    obtain ⟨⟨q0, q1, q2, q3⟩, _, _⟩ := At.four HP.r
    exact bodyPost_ret (v := .agg #[.int .i64 0, .int .i64 sv, .string ⟨#[]⟩, .func (.func 114) #[] #[.pointer (some ⟨K, 0, none⟩), .pointer (some ⟨W.heap.size, 0, none⟩)]]) (by simp [results, Tryz.results77, go_sem, q0, q1, q2, q3]) rfl ⟨_, rfl, HP.bel, Or.inr ⟨114, _, rfl, fun _ _ => rfl, fun W2 hf2 => by rw [← HPL.out]; exact clo114 B l s p o x y K W.heap.size W2 (hf2.mm HP.bel) (by rw [← HCS.out]; exact hf2.at HP.t HP.lo) (hf2.at HKK.out (by first | omega | (have := HKN.out; omega) | (have := HO.out.lo; have := HKh.out; have := HKN.out; omega) | (have := HO.out.lo; have := HR1.out; omega) | (have := HN.out.lo; have := HR1.out; omega) | (have := HKN.out; have := HKh.out; omega) | (have := HOl.out; have := HKh.out; have := HKN.out; omega) | (have := HKN.out; have := HR1.out; omega) | (have := HOl.out; omega) | (have := HN.out.lo; have := HOl.out; have := HR1.out; omega) | (have := HKh.out; have := HOl.out; have := HR1.out; omega))) (hf2.vi HVV.out (fun b hb => (HV.out.blk b hb).imp id (by have := HR1.out; omega)))⟩⟩
  · have HPR : Hid (PR = _) := Lib.hid (HE.out.trans (if_neg hz))
    obtain ⟨PR1, PR2⟩ := PR
    obtain ⟨rfl, rfl⟩ : PR1 = _ ∧ PR2 = _ := by have := HPR.out; exact ⟨congrArg Prod.fst this, congrArg Prod.snd this⟩
    have hz' : (er == 0) = false := by simpa using hz
    clear HE HPR
    go_wp2_with fail
    refine (bad_any er _).mono ?_
    rintro e w5 ⟨rfl, hb⟩
    replace HX := Lib.hid (HX.out.below hb)
    clear hb
    obtain ⟨_, ⟨r0, r1, r2, r3⟩, rh⟩ := At.four HX.out.r
    obtain ⟨rc0, rc1, rc2, rc3⟩ := (At.four HX.out.r).1
    go_wp2_with fail
    generalize hwB : (((w5.setCell ⟨W.heap.size + 1, 0, none⟩ (.int .i64 er)).setCell ⟨W.heap.size + 1, 1, none⟩ (.int .i64 0)).setCell ⟨W.heap.size + 1, 2, none⟩ (.string ⟨#[]⟩)).setCell ⟨W.heap.size + 1, 3, none⟩ (.nilFunc) = w9 at *
    have HP : Bx2 W w9 W.heap.size (W.heap.size + 1) cs [.int .i64 er, .int .i64 0, .string ⟨#[]⟩, .nilFunc] := by rw [← hwB]; exact HX.out.putR [.int .i64 er, .int .i64 0, .string ⟨#[]⟩, .nilFunc] rfl
    skip
    clear r0 r1 r2 r3 rc0 rc1 rc2 rc3
    obtain ⟨⟨q0, q1, q2, q3⟩, _, _⟩ := At.four HP.r
    exact bodyPost_ret (v := .agg #[.int .i64 er, .int .i64 0, .string ⟨#[]⟩, .nilFunc]) (by simp [results, Tryz.results77, go_sem, q0, q1, q2, q3]) rfl ⟨_, rfl, HP.bel, Or.inl ⟨rfl, rfl⟩⟩
def closedR (s : St) (p : Int) (o : Opr) : Res × St := if Des.numE s.d p o.fd = 0 then (⟨0, 0, ⟨#[]⟩⟩, { s with d := Des.closeD s.d p o.fd }) else (badR (Des.numE s.d p o.fd), s)
set_option maxHeartbeats 8000000 in
theorem closed_any (B : Nat) (l : Ly) (s : St) (p : Int) (o : Opr) (x : Ev) (W : World) (h : Mm B W l s) (hr : Des.Rt s.d) :
    Calls Tryz.prog 66 #[stepV l.M p o x] W (PlanP B W l s (closedR s p o).1 (closedR s p o).2) := by
  have HC : Hid (∀ W', Below W.heap.size W W' → Calls Tryz.prog 89 #[.agg #[.slice l.x.oa l.x.o.length l.x.oc, .slice l.x.ta l.x.t.length l.x.tc], .int .i64 p, .int .i64 o.fd] W' (fun e w' => ∃ y : Dv, e = .returned (.tuple #[.agg #[.slice y.oa y.o.length y.oc, .slice y.ta y.t.length y.tc], .bool (Des.closeG s.d p o.fd), .int .i64 (Des.numE s.d p o.fd)]) ∧ y.pl = Des.closeD s.d p o.fd ∧ DAns W' l.x w' y ∧ Below W'.heap.size W' w')) := Lib.hid fun W' hb => by
    have h1 := Des.close_v l.x p o.fd W' (h.below hb).im.di.di (h.dz hr)
    rw [h.im.dp] at h1
    exact h1
  have HM := Lib.hid h
  have HE : Hid (closedR s p o = if Des.numE s.d p o.fd = 0 then (⟨0, 0, ⟨#[]⟩⟩, { s with d := Des.closeD s.d p o.fd }) else (badR (Des.numE s.d p o.fd), s)) := Lib.hid rfl
  have HX := Lib.hid (Bx2.start W (stepC l.M p o x) [.int .i64 0, .int .i64 0, .string ⟨#[]⟩, .nilFunc] 122 114)
  have hmf : ∀ (fn : Fn) (first cap : Array Value) (w : World), (Instr.makeFunc fn first cap).run Tryz.prog w = .ok (.func fn first cap) w := fun _ _ _ _ => rfl
  unfold stepV
  obtain ⟨cs, hcs⟩ : ∃ cs, cs = stepC l.M p o x := ⟨_, rfl⟩
  have HCS := Lib.hid hcs
  rw [← hcs] at HX ⊢
  clear hcs h
  generalize closedR s p o = PR at *
  generalize Des.numE s.d p o.fd = er at *
  generalize Des.closeG s.d p o.fd = sv at *
  generalize Des.closeD s.d p o.fd = DD at *
  go_enter Tryz.func66, Tryz.ntmps66
  go_upto_region 1 with (fail)
  generalize World.alloc _ (Obj.cells #[.int .i64 0, .int .i64 0, .string ⟨#[]⟩, .nilFunc] 114) = W1 at *
  have HM1 := Lib.hid (HM.out.below HX.out.bel)
  have HR1 : Hid (W.heap.size + 1 < W1.heap.size) := Lib.hid HX.out.r.hi
  go_cut [3, 4, 5] (fun s3 s4 s5 wx => ∃ (K : Nat) (y : Dv), s3 = .pointer (some ⟨K, 0, none⟩) ∧ s4 = .bool sv ∧ s5 = .int .i64 er ∧ Hid (y.pl = DD) ∧ Hid (Nb W1 wx K [.slice y.oa y.o.length y.oc, .slice y.ta y.t.length y.tc]) ∧ Hid (DAns W1 l.x wx y))
  case first =>
    have HX0 := HX
    replace HX := Lib.hid (HX.out.below (Below.refl _ _).drew)
    have hT : W.heap.size < W1.heap.size := HX0.out.t.hi
    have hM : l.M < W1.heap.size := (HM.out.below HX0.out.bel).m.hi
    have e1 : ¬ W1.heap.size = W.heap.size := by omega
    have e2 : ¬ W.heap.size = W1.heap.size := by omega
    have e3 : ¬ W1.heap.size = l.M := by omega
    have e4 : ¬ l.M = W1.heap.size := by omega
    have yt0 := HX0.out.t.cell 0 (.pointer (some ⟨l.M, 0, none⟩)) (by rw [HCS.out]; rfl); have yt1 := HX0.out.t.cell 1 (.int .i64 p) (by rw [HCS.out]; rfl); have yt3 := HX0.out.t.cell 3 (.int .i64 o.fd) (by rw [HCS.out]; rfl); obtain ⟨ymO, ymP⟩ := (HM.out.below HX0.out.bel).cO
    have t0 := HX.out.t.cell 0 (.pointer (some ⟨l.M, 0, none⟩)) (by rw [HCS.out]; rfl); have t1 := HX.out.t.cell 1 (.int .i64 p) (by rw [HCS.out]; rfl); have t3 := HX.out.t.cell 3 (.int .i64 o.fd) (by rw [HCS.out]; rfl); obtain ⟨mO, mP⟩ := (HM.out.below HX.out.bel).cO
    go_region_held3 (fun w' => w'.cell? ⟨W.heap.size, 0, none⟩ = some (.pointer (some ⟨l.M, 0, none⟩)) ∧ w'.cell? ⟨W.heap.size, 1, none⟩ = some (.int .i64 p) ∧ w'.cell? ⟨W.heap.size, 3, none⟩ = some (.int .i64 o.fd) ∧ w'.cell? ⟨l.M, 24, none⟩ = some (.slice l.x.oa l.x.o.length l.x.oc) ∧ w'.cell? ⟨l.M, 25, none⟩ = some (.slice l.x.ta l.x.t.length l.x.tc)) (go_keep) (first | (go_at_call 89; refine (HC.out _ (by first | exact HX.out.bel | exact (HX.out.below ((Below.refl _ _).alloc (Nat.le_refl _) _)).bel)).mono ?_; rintro e w2 ⟨y, rfl, hpl, ha, hb⟩; have HPL := Lib.hid hpl; have HDA := Lib.hid ha; clear hpl ha; (first | (have HA := Lib.hid hb; replace HX := Lib.hid (HX.out.below hb)) | (have HB := Lib.hid hb; obtain ⟨_, _, f0, f1, fh⟩ := Des.At.two (((At.new W1 [.slice none 0 0, .slice none 0 0] 83).drew).below hb (by show W1.heap.size < (W1.alloc _).heap.size; rw [Des.alloc_size]; omega)); replace HX := Lib.hid ((HX.out.below ((Below.refl _ _).alloc (Nat.le_refl _) _)).below hb))); clear hb t0 t1 t3 mO mP; have t0 := HX.out.t.cell 0 (.pointer (some ⟨l.M, 0, none⟩)) (by rw [HCS.out]; rfl); have t1 := HX.out.t.cell 1 (.int .i64 p) (by rw [HCS.out]; rfl); have t3 := HX.out.t.cell 3 (.int .i64 o.fd) (by rw [HCS.out]; rfl); obtain ⟨mO, mP⟩ := (HM.out.below HX.out.bel).cO))
    all_goals
      go_wp2_with fail
      go_meet
      first | exact ⟨_, y, rfl, rfl, rfl, HPL, Lib.hid (Nb.after ((Below.refl W1.heap.size W1).drew.trans HA.out) [.slice y.oa y.o.length y.oc, .slice y.ta y.t.length y.tc] 83), Lib.hid (dy_after ((Below.refl W1.heap.size W1).drew.trans HA.out) HDA.out _)⟩ | exact ⟨_, y, rfl, rfl, rfl, HPL, Lib.hid (Nb.before (T := 83) (zs := [.slice none 0 0, .slice none 0 0]) ((Below.refl (W1.alloc _).heap.size (W1.alloc _)).drew.trans HB.out) [.slice y.oa y.o.length y.oc, .slice y.ta y.t.length y.tc] rfl), Lib.hid (dy_before HM1.out HDA.out [.slice y.oa y.o.length y.oc, .slice y.ta y.t.length y.tc])⟩
  case rest =>
  obtain ⟨K, y, rfl, rfl, rfl, HPL, HN, HV⟩ := hcut
  replace HX := Lib.hid (HX.out.below HN.out.bel)
  clear HC
  by_cases hz : er = 0
  · subst hz
    have HPR : Hid (PR = _) := Lib.hid (HE.out.trans (if_pos rfl))
    obtain ⟨PR1, PR2⟩ := PR
    obtain ⟨rfl, rfl⟩ : PR1 = _ ∧ PR2 = _ := by have := HPR.out; exact ⟨congrArg Prod.fst this, congrArg Prod.snd this⟩
    clear HE HPR
    obtain ⟨_, ⟨r0, r1, r2, r3⟩, rh⟩ := At.four HX.out.r
    obtain ⟨rc0, rc1, rc2, rc3⟩ := (At.four HX.out.r).1
    go_wp2_with fail
    generalize hwB : (((wc.setCell ⟨W.heap.size + 1, 0, none⟩ (.int .i64 0)).setCell ⟨W.heap.size + 1, 1, none⟩ (.int .i64 0)).setCell ⟨W.heap.size + 1, 2, none⟩ (.string ⟨#[]⟩)).setCell ⟨W.heap.size + 1, 3, none⟩ (.func (.func 90) #[] #[.pointer (some ⟨K, 0, none⟩), .pointer (some ⟨W.heap.size, 0, none⟩)]) = w9 at *
    have HP : Bx2 W w9 W.heap.size (W.heap.size + 1) cs [.int .i64 0, .int .i64 0, .string ⟨#[]⟩, .func (.func 90) #[] #[.pointer (some ⟨K, 0, none⟩), .pointer (some ⟨W.heap.size, 0, none⟩)]] := by rw [← hwB]; exact HX.out.putR [.int .i64 0, .int .i64 0, .string ⟨#[]⟩, .func (.func 90) #[] #[.pointer (some ⟨K, 0, none⟩), .pointer (some ⟨W.heap.size, 0, none⟩)]] rfl
    skip
    have HKK : Hid (At w9 K (d2 y)) := Lib.hid (by rw [← hwB]; exact HN.out.at'.apart (by have := HN.out.lo; have := HR1.out; omega) 0 [.int .i64 0, .int .i64 0, .string ⟨#[]⟩, .func (.func 90) #[] #[.pointer (some ⟨K, 0, none⟩), .pointer (some ⟨W.heap.size, 0, none⟩)]])
    have HVV : Hid (Vi w9 (vx l) y) := Lib.hid (by rw [← hwB]; exact dn_vi HM.out (by omega) HR1.out HV.out [.int .i64 0, .int .i64 0, .string ⟨#[]⟩, .func (.func 90) #[] #[.pointer (some ⟨K, 0, none⟩), .pointer (some ⟨W.heap.size, 0, none⟩)]])
    clear r0 r1 r2 r3 rc0 rc1 rc2 rc3
    obtain ⟨⟨q0, q1, q2, q3⟩, _, _⟩ := At.four HP.r
    exact bodyPost_ret (v := .agg #[.int .i64 0, .int .i64 0, .string ⟨#[]⟩, .func (.func 90) #[] #[.pointer (some ⟨K, 0, none⟩), .pointer (some ⟨W.heap.size, 0, none⟩)]]) (by simp [results, Tryz.results66, go_sem, q0, q1, q2, q3]) rfl ⟨_, rfl, HP.bel, Or.inr ⟨90, _, rfl, fun _ _ => rfl, fun W2 hf2 => by rw [← HPL.out]; exact clo90 B l s p o x y K W.heap.size W2 (hf2.mm HP.bel) (by rw [← HCS.out]; exact hf2.at HP.t HP.lo) (hf2.at HKK.out (by first | omega | (have := HKN.out; omega) | (have := HO.out.lo; have := HKh.out; have := HKN.out; omega) | (have := HO.out.lo; have := HR1.out; omega) | (have := HN.out.lo; have := HR1.out; omega) | (have := HKN.out; have := HKh.out; omega) | (have := HOl.out; have := HKh.out; have := HKN.out; omega) | (have := HKN.out; have := HR1.out; omega) | (have := HOl.out; omega) | (have := HN.out.lo; have := HOl.out; have := HR1.out; omega) | (have := HKh.out; have := HOl.out; have := HR1.out; omega))) (hf2.vi HVV.out (fun b hb => (HV.out.blk b hb).imp id (by have := HR1.out; omega)))⟩⟩
  · have HPR : Hid (PR = _) := Lib.hid (HE.out.trans (if_neg hz))
    obtain ⟨PR1, PR2⟩ := PR
    obtain ⟨rfl, rfl⟩ : PR1 = _ ∧ PR2 = _ := by have := HPR.out; exact ⟨congrArg Prod.fst this, congrArg Prod.snd this⟩
    have hz' : (er == 0) = false := by simpa using hz
    clear HE HPR
    go_wp2_with fail
    refine (bad_any er _).mono ?_
    rintro e w5 ⟨rfl, hb⟩
    replace HX := Lib.hid (HX.out.below hb)
    clear hb
    obtain ⟨_, ⟨r0, r1, r2, r3⟩, rh⟩ := At.four HX.out.r
    obtain ⟨rc0, rc1, rc2, rc3⟩ := (At.four HX.out.r).1
    go_wp2_with fail
    generalize hwB : (((w5.setCell ⟨W.heap.size + 1, 0, none⟩ (.int .i64 er)).setCell ⟨W.heap.size + 1, 1, none⟩ (.int .i64 0)).setCell ⟨W.heap.size + 1, 2, none⟩ (.string ⟨#[]⟩)).setCell ⟨W.heap.size + 1, 3, none⟩ (.nilFunc) = w9 at *
    have HP : Bx2 W w9 W.heap.size (W.heap.size + 1) cs [.int .i64 er, .int .i64 0, .string ⟨#[]⟩, .nilFunc] := by rw [← hwB]; exact HX.out.putR [.int .i64 er, .int .i64 0, .string ⟨#[]⟩, .nilFunc] rfl
    skip
    clear r0 r1 r2 r3 rc0 rc1 rc2 rc3
    obtain ⟨⟨q0, q1, q2, q3⟩, _, _⟩ := At.four HP.r
    exact bodyPost_ret (v := .agg #[.int .i64 er, .int .i64 0, .string ⟨#[]⟩, .nilFunc]) (by simp [results, Tryz.results66, go_sem, q0, q1, q2, q3]) rfl ⟨_, rfl, HP.bel, Or.inl ⟨rfl, rfl⟩⟩
end Go.Proofs.YtimhaidiclbnhaaGreat.Ver
