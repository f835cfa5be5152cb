/- Layer 46, shared texts of this seat, part 27. -/
import Derived.Test.YtimhaidiclbnhaaGreatM23
import Derived.Test.YtimhaidiclbnhaaGreatM00
import Derived.Test.YtimhaidiclbnhaaGreatM18
/- Layer 46: the plan of seek. -/
set_option linter.unusedSimpArgs false
set_option linter.unusedVariables false
set_option maxRecDepth 100000
namespace Go.Proofs.YtimhaidiclbnhaaGreat.Ver
open Go.ChangeShapes Go.WideShapes Go.ChangeAt Go.RowKit
open Des (Dv De Dn DIn DBlk DAns Vi At RowOf ints DSz)
open Ara (Ar ARow)
open Con (StrRow)

theorem two_new (w : World) (us : List Value) (ut : TypeId) (zs : List Value) (zt : TypeId) : At ((w.alloc (.cells us.toArray ut)).alloc (.cells zs.toArray zt)) w.heap.size us ∧ At ((w.alloc (.cells us.toArray ut)).alloc (.cells zs.toArray zt)) (w.heap.size + 1) zs ∧ Below w.heap.size w ((w.alloc (.cells us.toArray ut)).alloc (.cells zs.toArray zt)) :=
  ⟨(At.new w us ut).alloc _, (At.new (w.alloc (.cells us.toArray ut)) zs zt).cast (by rw [Des.alloc_size]), ((Below.refl w.heap.size w).alloc (Nat.le_refl _) _).alloc (by rw [Des.alloc_size]; omega) _⟩
def seekR (s : St) (p : Int) (o : Opr) : Res × St :=
  if lkE s p o.fd 0 ≠ 0 then (badR (lkE s p o.fd 0), s) else
  if Des.updE s.d (Des.numV s.d p o.fd) o.off (Des.lookV s.d p o.fd).cu ≠ 0 then (badR (Des.updE s.d (Des.numV s.d p o.fd) o.off (Des.lookV s.d p o.fd).cu), s) else
  (⟨0, 0, ⟨#[]⟩⟩, { s with d := Des.updD s.d (Des.numV s.d p o.fd) o.off (Des.lookV s.d p o.fd).cu })
set_option maxHeartbeats 8000000 in
theorem seek_any (B : Nat) (l : Ly) (s : St) (p : Int) (o : Opr) (x : Ev) (W : World) (h : Mm B W l s) (hr : Des.Rt s.d) (hn : s.fs.length ≤ 1000) :
    Calls Tryz.prog 69 #[stepV l.M p o x] W (PlanP B W l s (seekR s p o).1 (seekR s p o).2) := by
  have HLK : Hid (∀ W', Below W.heap.size W W' → Calls Tryz.prog 91 #[stepV l.M p o x, .int .i64 0] W' (RetW (.tuple #[.int .i64 (Des.numV s.d p o.fd), .agg #[.int .i64 (Des.lookV s.d p o.fd).fi, .int .i64 (Des.lookV s.d p o.fd).fl, .int .i64 (Des.lookV s.d p o.fd).f, .int .i64 (Des.lookV s.d p o.fd).cu, .int .i64 (Des.lookV s.d p o.fd).rf], .int .i64 (lkE s p o.fd 0)]) W')) := Lib.hid fun W' hb => lookup_any' B l s p o x 0 W' (h.below hb) hr hn
  have HM := Lib.hid h
  have HU0 : Hid (∀ (n : Int) (D : Dn) W', Below W.heap.size W W' → Calls Tryz.prog 98 #[.agg #[.slice l.x.oa l.x.o.length l.x.oc, .slice l.x.ta l.x.t.length l.x.tc], .int .i64 n, .agg #[.int .i64 D.fi, .int .i64 D.fl, .int .i64 D.f, .int .i64 D.cu, .int .i64 D.rf]] W' fun e w' => ∃ y : Dv, e = .returned (.tuple #[.agg #[.slice y.oa y.o.length y.oc, .slice y.ta y.t.length y.tc], .int .i64 (Des.updE s.d n D.f D.cu)]) ∧ Below W'.heap.size W' w') := Lib.hid fun n D W' hb => by
    have h1 := Des.upd_v l.x n D.fi D.fl D.f D.cu D.rf W' (h.below hb).im.di.di (h.dz hr)
    rw [h.im.dp] at h1
    exact h1.mono fun e w' ⟨y, h1, h2, h3, h4⟩ => ⟨y, h1, h4⟩
  have HE : Hid (seekR s p o = if lkE s p o.fd 0 ≠ 0 then (badR (lkE s p o.fd 0), s) else if Des.updE s.d (Des.numV s.d p o.fd) o.off (Des.lookV s.d p o.fd).cu ≠ 0 then (badR (Des.updE s.d (Des.numV s.d p o.fd) o.off (Des.lookV s.d p o.fd).cu), s) else (⟨0, 0, ⟨#[]⟩⟩, { s with d := Des.updD s.d (Des.numV s.d p o.fd) o.off (Des.lookV s.d p o.fd).cu })) := Lib.hid rfl
  have HX := Lib.hid (Bx2.start W (stepC l.M p o x) [.int .i64 0, .int .i64 0, .string ⟨#[]⟩, .nilFunc] 122 114)
  have hmf : ∀ (fn : Fn) (first cap : Array Value) (w : World), (Instr.makeFunc fn first cap).run Tryz.prog w = .ok (.func fn first cap) w := fun _ _ _ _ => rfl
  unfold stepV at HLK ⊢
  obtain ⟨cs, hcs⟩ : ∃ cs, cs = stepC l.M p o x := ⟨_, rfl⟩
  have HCS := Lib.hid hcs
  rw [← hcs] at HX HLK ⊢
  clear hcs h
  generalize seekR s p o = PR at *
  generalize lkE s p o.fd 0 = le at *
  generalize Des.numV s.d p o.fd = nv at *
  generalize Des.lookV s.d p o.fd = D at *
  go_enter Tryz.func69, Tryz.ntmps69
  go_upto_region 1 with (fail)
  generalize World.alloc _ (Obj.cells #[.int .i64 0, .int .i64 0, .string ⟨#[]⟩, .nilFunc] 114) = W0 at *
  have hmf' := Lib.hid hmf
  clear hmf
  go_wp2_with (with_reducible refine Des.hold_load 122 rfl ?_)
  refine Des.load_ato 0 HX.out.t.r Tryz.underlying122 rfl (by rw [HCS.out]; exact size122) rfl rfl rfl ?_
  go_wp2_with fail
  refine (HLK.out _ HX.out.bel).mono ?_
  rintro e w1 ⟨rfl, hb⟩
  replace HX := Lib.hid (HX.out.below hb)
  clear hb HLK
  have HNK := Lib.hid (two_new w1 [.int .i64 nv] 3 [.int .i64 D.fi, .int .i64 D.fl, .int .i64 D.f, .int .i64 D.cu, .int .i64 D.rf] 126)
  have HR1 : Hid (W.heap.size + 1 < w1.heap.size) := Lib.hid HX.out.r.hi
  go_upto_region 2 with (fail)
  generalize ((w1.alloc (Obj.cells #[.int .i64 nv] 3)).alloc (Obj.cells #[.int .i64 D.fi, .int .i64 D.fl, .int .i64 D.f, .int .i64 D.cu, .int .i64 D.rf] 126)) = W1 at *
  replace HX := Lib.hid (HX.out.below HNK.out.2.2)
  have HN := Lib.hid HNK.out.1
  have HK := Lib.hid HNK.out.2.1
  have HKN : Hid (W.heap.size + 1 < w1.heap.size + 1 ∧ W.heap.size + 1 < w1.heap.size ∧ w1.heap.size ≠ w1.heap.size + 1) := Lib.hid (by have := HR1.out; omega)
  clear HNK HR1
  generalize w1.heap.size + 1 = K at *
  generalize w1.heap.size = N at *
  obtain ⟨⟨d0, d1, d2, d3, d4⟩, ⟨f0, f1, f2, f3, f4⟩, fh⟩ := Des.At.five HK.out
  have t6 := HX.out.t.cell 6 (.int .i64 o.off) (by rw [HCS.out]; rfl)
  have HX2 : Hid (Bx2 W (W1.setCell ⟨K, 2, none⟩ (.int .i64 o.off)) W.heap.size (W.heap.size + 1) cs [.int .i64 0, .int .i64 0, .string ⟨#[]⟩, .nilFunc]) := Lib.hid ⟨HX.out.bel.setCell (p := ⟨K, 2, none⟩) (by have := HKN.out; show W.heap.size ≤ K; omega) _, HX.out.t.setOther (x := ⟨K, 2, none⟩) (by have := HKN.out; show W.heap.size ≠ K; omega) _, HX.out.r.setOther (x := ⟨K, 2, none⟩) (by have := HKN.out; show W.heap.size + 1 ≠ K; omega) _, HX.out.lo, HX.out.tr⟩
  have HK2 := Lib.hid (HK.out.set 2 (.int .i64 o.off))
  have HN2 : Hid (At (W1.setCell ⟨K, 2, none⟩ (.int .i64 o.off)) N [.int .i64 nv]) := Lib.hid (HN.out.setOther (x := ⟨K, 2, none⟩) (by exact HKN.out.2.2) _)
  go_upto_region 3 with (fail)
  generalize W1.setCell ⟨K, 2, none⟩ (.int .i64 o.off) = W2 at *
  replace HK2 : Hid (At W2 K [.int .i64 D.fi, .int .i64 D.fl, .int .i64 o.off, .int .i64 D.cu, .int .i64 D.rf]) := HK2
  replace HX := HX2
  clear HX2 HK HN d0 d1 d2 d3 d4 f0 f1 f2 f3 f4 fh t6
  by_cases hz : le = 0
  · subst hz
    have HE2 := Lib.hid (HE.out.trans (if_neg (by simp)))
    clear HE
    have HE := HE2
    clear HE2
    go_upto_region 4 with (fail)
    have HU := Lib.hid (HU0.out nv ⟨D.fi, D.fl, o.off, D.cu, D.rf⟩)
    clear HU0
    replace HU := HU
    skip
    generalize Des.updE s.d nv o.off D.cu = ue at *
    go_cut [5] (fun v wx => v = .int .i64 ue ∧ Hid (Below W2.heap.size W2 wx))
    case first =>
      replace HX := Lib.hid (HX.out.below (Below.refl _ _).drew)
      replace HN2 := Lib.hid (Des.At.drew HN2.out)
      replace HK2 := Lib.hid (Des.At.drew HK2.out)
      have t0 := HX.out.t.cell 0 (.pointer (some ⟨l.M, 0, none⟩)) (by rw [HCS.out]; rfl); obtain ⟨mO, mP⟩ := (HM.out.below HX.out.bel).cO; have n0 := HN2.out.cell 0 _ rfl; obtain ⟨⟨d0, d1, d2, d3, d4⟩, _, _⟩ := Des.At.five HK2.out
      go_region_held3 (fun w' => w'.cell? ⟨W.heap.size, 0, none⟩ = some (.pointer (some ⟨l.M, 0, none⟩)) ∧ w'.cell? ⟨l.M, 24, none⟩ = some (.slice l.x.oa l.x.o.length l.x.oc) ∧ w'.cell? ⟨l.M, 25, none⟩ = some (.slice l.x.ta l.x.t.length l.x.tc) ∧ w'.cell? ⟨N, 0, none⟩ = some (.int .i64 nv) ∧ w'.cell? ⟨K, 0, none⟩ = some (.int .i64 D.fi) ∧ w'.cell? ⟨K, 1, none⟩ = some (.int .i64 D.fl) ∧ w'.cell? ⟨K, 2, none⟩ = some (.int .i64 o.off) ∧ w'.cell? ⟨K, 3, none⟩ = some (.int .i64 D.cu) ∧ w'.cell? ⟨K, 4, none⟩ = some (.int .i64 D.rf)) (go_keep) (first | (go_at_call 98; refine (HU.out _ HX.out.bel).mono ?_; rintro e w3 ⟨y, rfl, hb⟩; have HBB := Lib.hid hb; replace HX := Lib.hid (HX.out.below hb); replace HN2 := Lib.hid (HN2.out.below hb HN2.out.hi); replace HK2 := Lib.hid (HK2.out.below hb HK2.out.hi); clear hb t0 mO mP n0 d0 d1 d2 d3 d4; have t0 := HX.out.t.cell 0 (.pointer (some ⟨l.M, 0, none⟩)) (by rw [HCS.out]; rfl); obtain ⟨mO, mP⟩ := (HM.out.below HX.out.bel).cO; have n0 := HN2.out.cell 0 _ rfl; obtain ⟨⟨d0, d1, d2, d3, d4⟩, _, _⟩ := Des.At.five HK2.out))
      all_goals
        go_wp2_with fail
        go_meet
        exact ⟨rfl, Lib.hid ((Below.refl W2.heap.size W2).drew.trans HBB.out)⟩
    case rest =>
    obtain ⟨rfl, HBB⟩ := hcut
    replace HX := Lib.hid (HX.out.below HBB.out)
    replace HN2 := Lib.hid (HN2.out.below HBB.out HN2.out.hi)
    replace HK2 := Lib.hid (HK2.out.below HBB.out HK2.out.hi)
    clear HBB HU
    by_cases hu : ue = 0
    · subst hu
      obtain ⟨PR1, PR2⟩ := PR
      obtain ⟨rfl, rfl⟩ : PR1 = _ ∧ PR2 = _ := by have := HE.out.trans (if_neg (by simp)); exact ⟨congrArg Prod.fst this, congrArg Prod.snd this⟩
      clear HE
      replace hmf := hmf'.out
      obtain ⟨_, ⟨r0, r1, r2, r3⟩, rh⟩ := At.four HX.out.r
      obtain ⟨rc0, rc1, rc2, rc3⟩ := (At.four HX.out.r).1
      go_wp2_with fail
      generalize hwB : (((wc.setCell ⟨W.heap.size + 1, 0, none⟩ (.int .i64 0)).setCell ⟨W.heap.size + 1, 1, none⟩ (.int .i64 0)).setCell ⟨W.heap.size + 1, 2, none⟩ (.string ⟨#[]⟩)).setCell ⟨W.heap.size + 1, 3, none⟩ (.func (.func 99) #[] #[.pointer (some ⟨W.heap.size, 0, none⟩), .pointer (some ⟨N, 0, none⟩), .pointer (some ⟨K, 0, none⟩)]) = w9 at *
      have HP : Bx2 W w9 W.heap.size (W.heap.size + 1) cs [.int .i64 0, .int .i64 0, .string ⟨#[]⟩, .func (.func 99) #[] #[.pointer (some ⟨W.heap.size, 0, none⟩), .pointer (some ⟨N, 0, none⟩), .pointer (some ⟨K, 0, none⟩)]] := by rw [← hwB]; exact HX.out.putR [.int .i64 0, .int .i64 0, .string ⟨#[]⟩, .func (.func 99) #[] #[.pointer (some ⟨W.heap.size, 0, none⟩), .pointer (some ⟨N, 0, none⟩), .pointer (some ⟨K, 0, none⟩)]] rfl
      skip
      have HAN : Hid (At w9 N [.int .i64 nv]) := Lib.hid (by rw [← hwB]; exact HN2.out.apart (by have := HKN.out; omega) 0 [.int .i64 0, .int .i64 0, .string ⟨#[]⟩, .func (.func 99) #[] #[.pointer (some ⟨W.heap.size, 0, none⟩), .pointer (some ⟨N, 0, none⟩), .pointer (some ⟨K, 0, none⟩)]])
      have HAK : Hid (At w9 K [.int .i64 D.fi, .int .i64 D.fl, .int .i64 o.off, .int .i64 D.cu, .int .i64 D.rf]) := Lib.hid (by rw [← hwB]; exact HK2.out.apart (by have := HKN.out; omega) 0 [.int .i64 0, .int .i64 0, .string ⟨#[]⟩, .func (.func 99) #[] #[.pointer (some ⟨W.heap.size, 0, none⟩), .pointer (some ⟨N, 0, none⟩), .pointer (some ⟨K, 0, none⟩)]])
      clear r0 r1 r2 r3 rc0 rc1 rc2 rc3
      obtain ⟨⟨q0, q1, q2, q3⟩, _, _⟩ := At.four HP.r
      exact bodyPost_ret (v := .agg #[.int .i64 0, .int .i64 0, .string ⟨#[]⟩, .func (.func 99) #[] #[.pointer (some ⟨W.heap.size, 0, none⟩), .pointer (some ⟨N, 0, none⟩), .pointer (some ⟨K, 0, none⟩)]]) (by simp [results, Tryz.results69, go_sem, q0, q1, q2, q3]) rfl ⟨_, rfl, HP.bel, Or.inr ⟨99, _, rfl, fun _ _ => rfl, fun W2' hf2 => clo99 B l s p o x nv ⟨D.fi, D.fl, o.off, D.cu, D.rf⟩ W.heap.size N K W2' (hf2.mm HP.bel) hr (by rw [← HCS.out]; exact hf2.at HP.t HP.lo) (hf2.at HAN.out (by first | omega | (have := HKN.out; omega) | (have := HN.out.lo; have := HR1.out; omega) | (have := HKN.out; have := HKh.out; omega) | (have := HOl.out; have := HKh.out; have := HKN.out; omega) | (have := HKN.out; have := HR1.out; omega) | (have := HOl.out; omega) | (have := HN.out.lo; have := HOl.out; have := HR1.out; omega) | (have := HKh.out; have := HOl.out; have := HR1.out; omega))) (hf2.at HAK.out (by first | omega | (have := HKN.out; omega) | (have := HN.out.lo; have := HR1.out; omega) | (have := HKN.out; have := HKh.out; omega) | (have := HOl.out; have := HKh.out; have := HKN.out; omega) | (have := HKN.out; have := HR1.out; omega) | (have := HOl.out; omega) | (have := HN.out.lo; have := HOl.out; have := HR1.out; omega) | (have := HKh.out; have := HOl.out; have := HR1.out; omega)))⟩⟩
    · have hu' : (ue == 0) = false := by simpa using hu
      obtain ⟨PR1, PR2⟩ := PR
      obtain ⟨rfl, rfl⟩ : PR1 = _ ∧ PR2 = _ := by have := HE.out.trans (if_pos hu); exact ⟨congrArg Prod.fst this, congrArg Prod.snd this⟩
      clear HE
      go_wp2_with fail
      refine (bad_any ue _).mono ?_
      rintro e w5 ⟨rfl, hb⟩
      replace HX := Lib.hid (HX.out.below hb)
      clear hb
      obtain ⟨_, ⟨r0, r1, r2, r3⟩, rh⟩ := At.four HX.out.r
      obtain ⟨rc0, rc1, rc2, rc3⟩ := (At.four HX.out.r).1
      go_wp2_with fail
      generalize hwB : (((w5.setCell ⟨W.heap.size + 1, 0, none⟩ (.int .i64 ue)).setCell ⟨W.heap.size + 1, 1, none⟩ (.int .i64 0)).setCell ⟨W.heap.size + 1, 2, none⟩ (.string ⟨#[]⟩)).setCell ⟨W.heap.size + 1, 3, none⟩ (.nilFunc) = w9 at *
      have HP : Bx2 W w9 W.heap.size (W.heap.size + 1) cs [.int .i64 ue, .int .i64 0, .string ⟨#[]⟩, .nilFunc] := by rw [← hwB]; exact HX.out.putR [.int .i64 ue, .int .i64 0, .string ⟨#[]⟩, .nilFunc] rfl
      skip
      clear r0 r1 r2 r3 rc0 rc1 rc2 rc3
      obtain ⟨⟨q0, q1, q2, q3⟩, _, _⟩ := At.four HP.r
      exact bodyPost_ret (v := .agg #[.int .i64 ue, .int .i64 0, .string ⟨#[]⟩, .nilFunc]) (by simp [results, Tryz.results69, go_sem, q0, q1, q2, q3]) rfl ⟨_, rfl, HP.bel, Or.inl ⟨rfl, rfl⟩⟩
  · have hz' : (le == 0) = false := by simpa using hz
    obtain ⟨PR1, PR2⟩ := PR
    obtain ⟨rfl, rfl⟩ : PR1 = _ ∧ PR2 = _ := by have := HE.out.trans (if_pos hz); exact ⟨congrArg Prod.fst this, congrArg Prod.snd this⟩
    clear HE
    clear HU0
    go_wp2_with fail
    refine (bad_any le _).mono ?_
    rintro e w5 ⟨rfl, hb⟩
    replace HX := Lib.hid (HX.out.below hb)
    clear hb
    obtain ⟨_, ⟨r0, r1, r2, r3⟩, rh⟩ := At.four HX.out.r
    obtain ⟨rc0, rc1, rc2, rc3⟩ := (At.four HX.out.r).1
    go_wp2_with fail
    generalize hwB : (((w5.setCell ⟨W.heap.size + 1, 0, none⟩ (.int .i64 le)).setCell ⟨W.heap.size + 1, 1, none⟩ (.int .i64 0)).setCell ⟨W.heap.size + 1, 2, none⟩ (.string ⟨#[]⟩)).setCell ⟨W.heap.size + 1, 3, none⟩ (.nilFunc) = w9 at *
    have HP : Bx2 W w9 W.heap.size (W.heap.size + 1) cs [.int .i64 le, .int .i64 0, .string ⟨#[]⟩, .nilFunc] := by rw [← hwB]; exact HX.out.putR [.int .i64 le, .int .i64 0, .string ⟨#[]⟩, .nilFunc] rfl
    skip
    clear r0 r1 r2 r3 rc0 rc1 rc2 rc3
    obtain ⟨⟨q0, q1, q2, q3⟩, _, _⟩ := At.four HP.r
    exact bodyPost_ret (v := .agg #[.int .i64 le, .int .i64 0, .string ⟨#[]⟩, .nilFunc]) (by simp [results, Tryz.results69, go_sem, q0, q1, q2, q3]) rfl ⟨_, rfl, HP.bel, Or.inl ⟨rfl, rfl⟩⟩
end Go.Proofs.YtimhaidiclbnhaaGreat.Ver
/- Contents of files: what the small functions compute. -/
set_option linter.unusedSimpArgs false
set_option linter.unusedVariables false
set_option maxRecDepth 100000
namespace Go.Proofs.YtimhaidiclbnhaaGreat.Con
open Go.ChangeShapes Go.WideShapes Go.ChangeAt Go.RowKit

theorem rep_zero (c : Nat) : Lib.repeatL [0] c = List.replicate c (0 : UInt8) := by
  induction c with
  | zero => rfl
  | succ n ih => simp [Lib.repeatL, ih, List.replicate_succ]
theorem repeat_any (n : Int) (w : World) (h0 : 0 ≤ n) (h1 : n ≤ 1000000) :
    Calls Tryz.prog 141 #[.string ⟨#[0]⟩, .int .i64 n] w (RetW (.string (zeros n.toNat)) w) := by
  obtain ⟨c, rfl⟩ := Int.eq_ofNat_of_zero_le h0
  refine (Tryz.strings_Repeat ⟨#[0]⟩ c w (by omega) (by show 1 * c ≤ _; omega)).mono ?_
  rintro e w' ⟨rfl, hb⟩
  refine ⟨?_, hb⟩
  show Ending.returned (.string ⟨(Lib.repeatL [0] c).toArray⟩) = _
  rw [rep_zero]; rfl
def longB (s : ByteArray) : Bool := decide (128 < s.size)
def badB (n : Int) : Bool := decide (n < 0 ∨ 128 < n)
theorem long_any (s : ByteArray) (w : World) (hs : s.size ≤ maxLen) : Calls Tryz.prog 124 #[.string s] w fun e w' => e = .returned (.bool (longB s)) ∧ w = w' := by
  unfold maxLen at hs
  go_enter Tryz.func124, Tryz.ntmps124
  go_wp2_with fail
  go_ret
  have e : decide (128 < (s.size : Int)) = longB s := by
    unfold longB
    congr 1
    apply propext
    omega
  exact ⟨by show Ending.returned (.bool (decide (128 < (s.size : Int)))) = _; rw [e], rfl⟩
theorem bad_any (n : Int) (w : World) : Calls Tryz.prog 125 #[.int .i64 n] w fun e w' => e = .returned (.bool (badB n)) ∧ w = w' := by
  go_enter Tryz.func125, Tryz.ntmps125
  go_wp2_with fail
  all_goals
    go_ret
    refine ⟨?_, rfl⟩
    simp [badB]
    try omega
/-- cut or filled with zeros -/
def sizedS (s : ByteArray) (n : Nat) : ByteArray := if n ≤ s.size then s.extract 0 n else s ++ zeros (n - s.size)
set_option maxHeartbeats 1000000 in
theorem sized_any (s : ByteArray) (n : Nat) (w : World) (hs : s.size ≤ 1000000) (hn : n ≤ 1000000) : Calls Tryz.prog 129 #[.string s, .int .i64 n] w (RetW (.string (sizedS s n)) w) := by
  by_cases h : n ≤ s.size
  · have HR : Hid (sizedS s n = s.extract 0 n) := by unfold Hid sizedS; rw [if_pos h]
    have h2 : (n : Int) ≤ (s.size : Int) := by omega
    go_enter Tryz.func129, Tryz.ntmps129
    go_wp2_with fail
    go_ret
    exact RetW.mk (by rw [HR.out]; rfl) (Below.refl _ _)
  · have HR : Hid (sizedS s n = s ++ zeros (n - s.size)) := by unfold Hid sizedS; rw [if_neg h]
    have h2 : (s.size : Int) < (n : Int) := by omega
    have hrep := fun w => repeat_any ((n : Int) - (s.size : Int)) w (by omega) (by omega)
    have he : ((n : Int) - (s.size : Int)).toNat = n - s.size := by omega
    rw [he] at hrep
    have hz := size_zeros (n - s.size)
    generalize zeros (n - s.size) = z at *
    have hl : s.size + z.size ≤ 9223372036854775807 := by omega
    have HP := Lib.hid hrep
    clear hrep he hz
    go_enter Tryz.func129, Tryz.ntmps129
    go_wp2_with (go_at_call 141; refine (HP.out _).mono ?_; rintro e w' ⟨rfl, hb⟩)
    go_ret
    exact RetW.mk (by rw [HR.out]; rfl) hb
end Go.Proofs.YtimhaidiclbnhaaGreat.Con
/- Contents of files: the program's reading, writing, truncating and punching. -/
set_option linter.unusedSimpArgs false
set_option linter.unusedVariables false
set_option maxRecDepth 100000
namespace Go.Proofs.YtimhaidiclbnhaaGreat.Con
open Go.ChangeShapes Go.WideShapes Go.ChangeAt Go.RowKit

theorem sizedS_size (s : ByteArray) (n : Nat) : (sizedS s n).size = n := by
  unfold sizedS
  split
  · simp; omega
  · rw [ByteArray.size_append, size_zeros]; omega
/-- b laid over s from off on -/
def putS (s : ByteArray) (off : Nat) (b : ByteArray) : ByteArray :=
  (sizedS s (max s.size (off + b.size))).extract 0 off ++ b ++ (sizedS s (max s.size (off + b.size))).extract (off + b.size) (max s.size (off + b.size))
set_option maxHeartbeats 1000000 in
theorem put_any (s : ByteArray) (off : Nat) (b : ByteArray) (w : World) (hs : s.size ≤ 100000) (ho : off ≤ 100000) (hb : b.size ≤ 100000) :
    Calls Tryz.prog 126 #[.string s, .int .i64 off, .string b] w (RetW (.string (putS s off b)) w) := by
  have HR : Hid (putS s off b = (sizedS s (max s.size (off + b.size))).extract 0 off ++ b ++ (sizedS s (max s.size (off + b.size))).extract (off + b.size) (sizedS s (max s.size (off + b.size))).size) := by
    unfold Hid putS
    rw [sizedS_size]
  have hsz := sizedS_size s (max s.size (off + b.size))
  have hcall := fun w => sized_any s (max s.size (off + b.size)) w (by omega) (by omega)
  have hm : ((max s.size (off + b.size) : Nat) : Int) = max (s.size : Int) ((off : Int) + b.size) := by omega
  rw [hm] at hcall
  generalize sizedS s (max s.size (off + b.size)) = t at *
  generalize putS s off b = r at *
  have h1 : (off : Int) ≤ (t.size : Int) := by omega
  have h2 : (off : Int) + (b.size : Int) ≤ (t.size : Int) := by omega
  have h4 : IntKind.i64.wrap ((off : Int) + (b.size : Int)) = (off : Int) + (b.size : Int) := IntWalk.i64_in _ (by omega)
  have h5 : ((off : Int) + (b.size : Int)).toNat = off + b.size := by omega
  have h6 : ¬ 9223372036854775807 < off + b.size := by omega
  have h7 : ¬ 9223372036854775807 < off + b.size + (t.size - (off + b.size)) := by omega
  have h8 : 0 ≤ (off : Int) + (b.size : Int) := by omega
  have h9 : off ≤ t.size := by omega
  have h10 : off + b.size ≤ t.size := by omega
  have HC := Lib.hid hcall
  clear hcall hm hsz
  go_enter Tryz.func126, Tryz.ntmps126
  go_wp2_with (go_at_call 129; refine (HC.out _).mono ?_; rintro e w' ⟨rfl, hb'⟩)
  go_quiet (fail)
  go_wp2_with fail
  go_ret
  exact RetW.mk (by rw [HR.out]; rfl) (below_drewN hb' _)
end Go.Proofs.YtimhaidiclbnhaaGreat.Con
/- Reading: the program's answer and the document's. -/
set_option linter.unusedSimpArgs false
set_option linter.unusedVariables false
set_option maxRecDepth 100000
namespace Go.Proofs.YtimhaidiclbnhaaGreat.Con
open Go.ChangeShapes Go.WideShapes Go.ChangeAt Go.RowKit

def readV (s : ByteArray) (off n : Int) : ByteArray × Int :=
  if longB s = true then (⟨#[]⟩, 1) else if badB off = true ∨ n < 0 then (⟨#[]⟩, 2)
  else (s.extract (min off.toNat s.size) (min off.toNat s.size + min n.toNat (s.size - min off.toNat s.size)), 0)
theorem badB_iff {n : Int} : badB n = true ↔ (n < 0 ∨ 128 < n) := by simp [badB]
theorem longB_iff {s : ByteArray} : longB s = true ↔ 128 < s.size := by simp [longB]

set_option maxHeartbeats 2000000 in
theorem read_any (s : ByteArray) (off n : Int) (w : World) (hs : s.size ≤ maxLen) :
    Calls Tryz.prog 92 #[.string s, .int .i64 off, .int .i64 n] w fun e w' => e = .returned (.tuple #[.string (readV s off n).1, .int .i64 (readV s off n).2]) ∧ w = w' := by
  have HL := Lib.hid (fun w => long_any s w hs)
  have HB := Lib.hid (bad_any off)
  cases hl : longB s with
  | true =>
    rw [hl] at HL
    have HR : Hid (readV s off n = (⟨#[]⟩, 1)) := by unfold Hid readV; rw [if_pos hl]
    clear hl
    go_enter Tryz.func92, Tryz.ntmps92
    go_wp2_with (go_at_call 124; refine (HL.out _).mono ?_; rintro e w' ⟨rfl, rfl⟩)
    go_ret2
    rw [HR.out]
    exact ⟨rfl, rfl⟩
  | false =>
    rw [hl] at HL
    have hl' : ¬ longB s = true := by rw [hl]; simp
    have hsz : s.size ≤ 128 := by rw [longB_iff] at hl'; omega
    cases hb : badB off with
    | true =>
      rw [hb] at HB
      have HR : Hid (readV s off n = (⟨#[]⟩, 2)) := by unfold Hid readV; rw [if_neg hl', if_pos (Or.inl hb)]
      clear hl hl' hb
      go_enter Tryz.func92, Tryz.ntmps92
      go_wp2_with (first | (go_at_call 124; refine (HL.out _).mono ?_; rintro e w' ⟨rfl, rfl⟩) | (go_at_call 125; refine (HB.out _).mono ?_; rintro e w' ⟨rfl, rfl⟩))
      go_ret2
      rw [HR.out]
      exact ⟨rfl, rfl⟩
    | false =>
      rw [hb] at HB
      have hb' : ¬ badB off = true := by rw [hb]; simp
      have hof : ¬ (off < 0 ∨ 128 < off) := by rw [← badB_iff]; exact hb'
      by_cases hn : n < 0
      · have HR : Hid (readV s off n = (⟨#[]⟩, 2)) := by unfold Hid readV; rw [if_neg hl', if_pos (Or.inr hn)]
        clear hl hl' hb hb' hof
        go_enter Tryz.func92, Tryz.ntmps92
        go_wp2_with (first | (go_at_call 124; refine (HL.out _).mono ?_; rintro e w' ⟨rfl, rfl⟩) | (go_at_call 125; refine (HB.out _).mono ?_; rintro e w' ⟨rfl, rfl⟩))
        go_ret2
        rw [HR.out]
        exact ⟨rfl, rfl⟩
      · obtain ⟨o, rfl⟩ := Int.eq_ofNat_of_zero_le (show 0 ≤ off by omega)
        obtain ⟨m, rfl⟩ := Int.eq_ofNat_of_zero_le (show 0 ≤ n by omega)
        have e1 : ((o : Int)).toNat = o := by omega
        have e2 : ((m : Int)).toNat = m := by omega
        have HR : Hid (readV s (o : Int) (m : Int) = (s.extract (min o s.size) (min o s.size + min m (s.size - min o s.size)), 0)) := by
          unfold Hid readV
          rw [if_neg hl', if_neg (fun h => h.elim hb' hn), e1, e2]
        have q1 : min (o : Int) (s.size : Int) = ((min o s.size : Nat) : Int) := by omega
        have q2 : min (m : Int) ((s.size : Int) - ((min o s.size : Nat) : Int)) = ((min m (s.size - min o s.size) : Nat) : Int) := by omega
        have q3 : min o s.size ≤ s.size := by omega
        have q4 : min o s.size + min m (s.size - min o s.size) ≤ s.size := by omega
        have hnn : (0 : Int) ≤ (m : Int) := by omega
        generalize min o s.size = q at *
        generalize min m (s.size - q) = r at *
        clear hl hl' hb hb' hof hn e1 e2
        have q5 : (q : Int) ≤ (s.size : Int) := by omega
        have q6 : (q : Int) + (r : Int) ≤ (s.size : Int) := by omega
        go_enter Tryz.func92, Tryz.ntmps92
        go_wp2_with (first | (go_at_call 124; refine (HL.out _).mono ?_; rintro e w' ⟨rfl, rfl⟩) | (go_at_call 125; refine (HB.out _).mono ?_; rintro e w' ⟨rfl, rfl⟩))
        go_ret2
        rw [HR.out]
        exact ⟨rfl, rfl⟩
end Go.Proofs.YtimhaidiclbnhaaGreat.Con
/- Reading: the document's answer. -/
set_option linter.unusedSimpArgs false
set_option linter.unusedVariables false
set_option maxRecDepth 100000
namespace Go.Proofs.YtimhaidiclbnhaaGreat.Con
open Go.ChangeShapes Go.WideShapes Go.ChangeAt Go.RowKit

end Go.Proofs.YtimhaidiclbnhaaGreat.Con
