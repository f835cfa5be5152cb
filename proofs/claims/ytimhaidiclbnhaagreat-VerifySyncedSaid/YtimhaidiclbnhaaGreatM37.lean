/- Layer 46, shared texts of this seat, part 37. -/
import Derived.Test.YtimhaidiclbnhaaGreatM36
import Derived.Test.YtimhaidiclbnhaaGreatM28
import Derived.Test.YtimhaidiclbnhaaGreatM22
import Derived.Test.YtimhaidiclbnhaaGreatM24
import Derived.Test.YtimhaidiclbnhaaGreatM25
import Derived.Test.YtimhaidiclbnhaaGreatM26
import Derived.Test.YtimhaidiclbnhaaGreatM30
import Derived.Test.YtimhaidiclbnhaaGreatM31
import Derived.Test.YtimhaidiclbnhaaGreatM27
import Derived.Test.YtimhaidiclbnhaaGreatM29
import Derived.Test.YtimhaidiclbnhaaGreatM33
import Derived.Test.YtimhaidiclbnhaaGreatM35
/- Layer 46: the plans of store. -/
set_option linter.unusedSimpArgs false
set_option linter.unusedVariables false
set_option maxRecDepth 100000
namespace Go.Proofs.YtimhaidiclbnhaaGreat.Ver
open Go.ChangeShapes Go.WideShapes Go.ChangeAt Go.RowKit
open Des (Dv De Dn DIn DBlk DAns Vi At RowOf ints DSz)
open Ara (Ar ARow)
open Con (StrRow)

def storeR (s : St) (p : Nat) (o : Opr) : Res × St :=
  if adB s p o = false then (badR 4, s) else if (adA s p o).wr = false then (badR 13, s) else if (o.dat.size : Int) ≠ 1 then (badR 2, s) else if ((s.fs.getD (adA s p o).fi.toNat ⟨#[]⟩).size : Int) ≤ adN s p o then (badR 12, s) else (⟨0, 1, ⟨#[]⟩⟩, chS s (adA s p o).fi.toNat (Con.writeV (s.fs.getD (adA s p o).fi.toNat ⟨#[]⟩) (adN s p o) o.dat).1)
set_option maxHeartbeats 8000000 in
theorem store_any (B : Nat) (l : Ly) (s : St) (p : Nat) (o : Opr) (x : Ev) (W : World) (h : Mm B W l s) (hp : p < s.ar.length) (hps : p < s.scr.length) (hn : s.fs.length ≤ 1000) (hn2 : s.scr.length ≤ 1000) (hal : (s.ar.getD p []).length ≤ 100) (hoff : o.off ≤ 1000000) (hsz : ∀ y, y ∈ s.fs → y.size ≤ 1000) (haf : adB s p o = true → ∃ f : Nat, (adA s p o).fi = (f : Int) ∧ f < s.fs.length) (hfh : s.h.length = s.fs.length) (hl : ∀ i, i < s.h.length → (s.h.getD i ([], 0)).1.length ≤ 10000) (hdat : o.dat.size ≤ 1000) :
    Calls Tryz.prog 76 #[stepV l.M (p : Int) o x] W (PlanP B W l s (storeR s p o).1 (storeR s p o).2) := by
  have HAD : Hid (∀ W', Below W.heap.size W W' → Calls Tryz.prog 111 #[stepV l.M (p : Int) o x] W' (RetW (.tuple #[.agg #[.int .i64 (adA s p o).st, .int .i64 (adA s p o).cn, .int .i64 (adA s p o).fi, .int .i64 (adA s p o).pg, .bool (adA s p o).wr], .int .i64 (adN s p o), .bool (adB s p o)]) W')) := Lib.hid fun W' hb => address_any B l s p o x W' (h.below hb) hp hps hn2 hal hoff
  have HM := Lib.hid h
  have HCA : Hid (∀ (sd : ByteArray) (f : Int) W', sd.size ≤ 1000 → Calls Tryz.prog 95 #[.string sd, .int .i64 f, .string o.dat] W' (RetW (.tuple #[.string (Con.writeV sd f o.dat).1, .int .i64 (Con.writeV sd f o.dat).2]) W')) := Lib.hid fun sd f W' hs => Con.write_any sd f o.dat W' (by unfold maxLen; omega) (by unfold maxLen; omega)
  have HE : Hid (storeR s p o = if adB s p o = false then (badR 4, s) else if (adA s p o).wr = false then (badR 13, s) else if (o.dat.size : Int) ≠ 1 then (badR 2, s) else if ((s.fs.getD (adA s p o).fi.toNat ⟨#[]⟩).size : Int) ≤ adN s p o then (badR 12, s) else (⟨0, 1, ⟨#[]⟩⟩, chS s (adA s p o).fi.toNat (Con.writeV (s.fs.getD (adA s p o).fi.toNat ⟨#[]⟩) (adN s p o) o.dat).1)) := Lib.hid rfl
  have HX := Lib.hid (Bx2.start W (stepC l.M (p : Int) o x) [.int .i64 0, .int .i64 0, .string ⟨#[]⟩, .nilFunc] 122 114)
  have hmf : ∀ (fn : Fn) (first cap : Array Value) (w : World), (Instr.makeFunc fn first cap).run Tryz.prog w = .ok (.func fn first cap) w := fun _ _ _ _ => rfl
  unfold stepV at HAD ⊢
  obtain ⟨cs, hcs⟩ : ∃ cs, cs = stepC l.M (p : Int) o x := ⟨_, rfl⟩
  have HCS := Lib.hid hcs
  rw [← hcs] at HX HAD ⊢
  clear hcs h
  have HAF := Lib.hid haf
  clear haf
  generalize storeR s p o = PR at *
  generalize adA s p o = A at *
  generalize adN s p o = an at *
  generalize adB s p o = ab at *
  go_enter Tryz.func76, Tryz.ntmps76
  go_upto_region 1 with (fail)
  generalize World.alloc _ (Obj.cells #[.int .i64 0, .int .i64 0, .string ⟨#[]⟩, .nilFunc] 114) = W0 at *
  have hmf' := Lib.hid hmf
  clear hmf
  go_wp2_with (with_reducible refine Des.hold_load 122 rfl ?_)
  refine Des.load_ato 0 HX.out.t.r Tryz.underlying122 rfl (by rw [HCS.out]; exact size122) rfl rfl rfl ?_
  go_wp2_with fail
  refine (HAD.out _ HX.out.bel).mono ?_
  rintro e w1 ⟨rfl, hb⟩
  replace HX := Lib.hid (HX.out.below hb)
  clear hb HAD
  have HR1 : Hid (W.heap.size + 1 < w1.heap.size) := Lib.hid HX.out.r.hi
  have HK := Lib.hid (At.new w1 [.int .i64 A.st, .int .i64 A.cn, .int .i64 A.fi, .int .i64 A.pg, .bool A.wr] 139)
  have HBK : Hid (Below w1.heap.size w1 (w1.alloc (.cells ([.int .i64 A.st, .int .i64 A.cn, .int .i64 A.fi, .int .i64 A.pg, .bool A.wr] : List Value).toArray 139))) := Lib.hid ((Below.refl _ _).alloc (Nat.le_refl _) _)
  go_upto_region 2 with (fail)
  replace HX := Lib.hid (HX.out.below HBK.out)
  clear HBK
  generalize w1.alloc (Obj.cells #[.int .i64 A.st, .int .i64 A.cn, .int .i64 A.fi, .int .i64 A.pg, .bool A.wr] 139) = W1 at *
  generalize w1.heap.size = K at *
  cases ab with
  | false =>
    obtain ⟨PR1, PR2⟩ := PR
    obtain ⟨rfl, rfl⟩ : PR1 = _ ∧ PR2 = _ := by have := HE.out.trans (if_pos rfl); exact ⟨congrArg Prod.fst this, congrArg Prod.snd this⟩
    clear HE
    go_wp2_with fail
    refine (bad_any 4 _).mono ?_
    rintro e w5 ⟨rfl, hb⟩
    replace HX := Lib.hid (HX.out.below hb)
    clear hb
    obtain ⟨_, ⟨r0, r1, r2, r3⟩, rh⟩ := At.four HX.out.r
    obtain ⟨rc0, rc1, rc2, rc3⟩ := (At.four HX.out.r).1
    go_wp2_with fail
    generalize hwB : (((w5.setCell ⟨W.heap.size + 1, 0, none⟩ (.int .i64 4)).setCell ⟨W.heap.size + 1, 1, none⟩ (.int .i64 0)).setCell ⟨W.heap.size + 1, 2, none⟩ (.string ⟨#[]⟩)).setCell ⟨W.heap.size + 1, 3, none⟩ (.nilFunc) = w9 at *
    have HP : Bx2 W w9 W.heap.size (W.heap.size + 1) cs [.int .i64 4, .int .i64 0, .string ⟨#[]⟩, .nilFunc] := by rw [← hwB]; exact HX.out.putR [.int .i64 4, .int .i64 0, .string ⟨#[]⟩, .nilFunc] rfl
    skip
    clear r0 r1 r2 r3 rc0 rc1 rc2 rc3
    obtain ⟨⟨q0, q1, q2, q3⟩, _, _⟩ := At.four HP.r
    exact bodyPost_ret (v := .agg #[.int .i64 4, .int .i64 0, .string ⟨#[]⟩, .nilFunc]) (by simp [results, Tryz.results76, go_sem, q0, q1, q2, q3]) rfl ⟨_, rfl, HP.bel, Or.inl ⟨rfl, rfl⟩⟩
  | true =>
    have HE2 := Lib.hid (HE.out.trans (if_neg (by simp)))
    clear HE
    have HE := HE2
    clear HE2
    have k4 := HK.out.cell 4 (.bool A.wr) rfl
    cases hw : A.wr with
    | false =>
      rw [hw] at HE k4
      obtain ⟨PR1, PR2⟩ := PR
      obtain ⟨rfl, rfl⟩ : PR1 = _ ∧ PR2 = _ := by have := HE.out.trans (if_pos rfl); exact ⟨congrArg Prod.fst this, congrArg Prod.snd this⟩
      clear HE
      clear hw
      go_wp2_with fail
      refine (bad_any 13 _).mono ?_
      rintro e w5 ⟨rfl, hb⟩
      replace HX := Lib.hid (HX.out.below hb)
      clear hb
      obtain ⟨_, ⟨r0, r1, r2, r3⟩, rh⟩ := At.four HX.out.r
      obtain ⟨rc0, rc1, rc2, rc3⟩ := (At.four HX.out.r).1
      go_wp2_with fail
      generalize hwB : (((w5.setCell ⟨W.heap.size + 1, 0, none⟩ (.int .i64 13)).setCell ⟨W.heap.size + 1, 1, none⟩ (.int .i64 0)).setCell ⟨W.heap.size + 1, 2, none⟩ (.string ⟨#[]⟩)).setCell ⟨W.heap.size + 1, 3, none⟩ (.nilFunc) = w9 at *
      have HP : Bx2 W w9 W.heap.size (W.heap.size + 1) cs [.int .i64 13, .int .i64 0, .string ⟨#[]⟩, .nilFunc] := by rw [← hwB]; exact HX.out.putR [.int .i64 13, .int .i64 0, .string ⟨#[]⟩, .nilFunc] rfl
      skip
      clear r0 r1 r2 r3 rc0 rc1 rc2 rc3
      obtain ⟨⟨q0, q1, q2, q3⟩, _, _⟩ := At.four HP.r
      exact bodyPost_ret (v := .agg #[.int .i64 13, .int .i64 0, .string ⟨#[]⟩, .nilFunc]) (by simp [results, Tryz.results76, go_sem, q0, q1, q2, q3]) rfl ⟨_, rfl, HP.bel, Or.inl ⟨rfl, rfl⟩⟩
    | true =>
      rw [hw] at HE
      have k4' := k4
      rw [hw] at k4'
      clear k4 hw
      have HE2 := Lib.hid (HE.out.trans (if_neg (by simp)))
      clear HE
      have HE := HE2
      clear HE2
      have t9 := HX.out.t.cell 9 (.string o.dat) (by rw [HCS.out]; rfl)
      have hdJ : (o.dat.size : Int) ≤ 1000 := by omega
      by_cases h1 : (o.dat.size : Int) = 1
      · have HE2 := Lib.hid (HE.out.trans (if_neg (by simp [h1])))
        clear HE
        have HE := HE2
        clear HE2
        have h1' : (((o.dat.size : Nat) : Int) == 1) = true := by rw [h1]; rfl
        obtain ⟨f, hf, hfn⟩ := HAF.out rfl
        rw [hf, Int.toNat_natCast] at HE
        have HFI : Hid (A.fi = (f : Int)) := Lib.hid hf
        have hsd : (s.fs.getD f ⟨#[]⟩).size ≤ 1000 := hsz _ (by rw [List.getD_eq_getElem?_getD, List.getElem?_eq_getElem hfn]; exact List.getElem_mem hfn)
        have HFC := Lib.hid (fs_at s.fs f hfn)
        generalize s.fs.getD f ⟨#[]⟩ = sd at *
        have HCB := Lib.hid (fun W' => HCA.out sd an W' hsd)
        clear HCA HAF hf
        have hdI : (sd.size : Int) ≤ 1000 := by omega
        obtain ⟨TD, TE, hte⟩ : ∃ TD TE, Con.writeV sd an o.dat = (TD, TE) := ⟨_, _, rfl⟩
        rw [hte] at HE HCB
        simp only at HE HCB
        clear hte
        have hfI : (f : Int) < (s.fs.length : Int) := by omega
        have hnI : (s.fs.length : Int) ≤ 1000 := by omega
        go_upto_region 8 with (fail)
        clear t9 k4' h1'
        go_cut [30] (fun v wx => v = .bool (decide ((sd.size : Int) ≤ an)) ∧ Hid (Bx2 W wx W.heap.size (W.heap.size + 1) cs [.int .i64 0, .int .i64 0, .string ⟨#[]⟩, .nilFunc]) ∧ Hid (At wx K [.int .i64 A.st, .int .i64 A.cn, .int .i64 A.fi, .int .i64 A.pg, .bool A.wr]))
        case first =>
          have t0 := HX.out.t.cell 0 (.pointer (some ⟨l.M, 0, none⟩)) (by rw [HCS.out]; rfl); have mF := (HM.out.below HX.out.bel).cF; have a := (HM.out.below HX.out.bel).f.cell f (.string sd) HFC.out; have d2 := HK.out.cell 2 (.int .i64 (f : Int)) (by rw [← HFI.out]; rfl)
          by_cases h2 : (sd.size : Int) ≤ an
          · go_wp2_with fail
            go_quiet (fail)
            go_wp2_with fail
            go_meet
            exact ⟨by simp [h2], Lib.hid (HX.out.below (below_drewN (Below.refl _ _) nq)), Lib.hid (HK.out.below (below_drewN (Below.refl _ _) nq) HK.out.hi)⟩
          · go_wp2_with fail
            go_quiet (fail)
            go_wp2_with fail
            go_meet
            exact ⟨by simp [h2], Lib.hid (HX.out.below (below_drewN (Below.refl _ _) nq)), Lib.hid (HK.out.below (below_drewN (Below.refl _ _) nq) HK.out.hi)⟩
        case rest =>
        clear HX HK
        obtain ⟨rfl, HX, HK⟩ := hcut
        by_cases h2 : (sd.size : Int) ≤ an
        · have hd2 : decide ((sd.size : Int) ≤ an) = true := decide_eq_true h2
          rw [hd2]
          obtain ⟨PR1, PR2⟩ := PR
          obtain ⟨rfl, rfl⟩ : PR1 = _ ∧ PR2 = _ := by have := HE.out.trans (if_pos h2); exact ⟨congrArg Prod.fst this, congrArg Prod.snd this⟩
          clear HE
          clear h2 hd2
          go_wp2_with fail
          refine (bad_any 12 _).mono ?_
          rintro e w5 ⟨rfl, hb⟩
          replace HX := Lib.hid (HX.out.below hb)
          clear hb
          obtain ⟨_, ⟨r0, r1, r2, r3⟩, rh⟩ := At.four HX.out.r
          obtain ⟨rc0, rc1, rc2, rc3⟩ := (At.four HX.out.r).1
          go_wp2_with fail
          generalize hwB : (((w5.setCell ⟨W.heap.size + 1, 0, none⟩ (.int .i64 12)).setCell ⟨W.heap.size + 1, 1, none⟩ (.int .i64 0)).setCell ⟨W.heap.size + 1, 2, none⟩ (.string ⟨#[]⟩)).setCell ⟨W.heap.size + 1, 3, none⟩ (.nilFunc) = w9 at *
          have HP : Bx2 W w9 W.heap.size (W.heap.size + 1) cs [.int .i64 12, .int .i64 0, .string ⟨#[]⟩, .nilFunc] := by rw [← hwB]; exact HX.out.putR [.int .i64 12, .int .i64 0, .string ⟨#[]⟩, .nilFunc] rfl
          skip
          clear r0 r1 r2 r3 rc0 rc1 rc2 rc3
          obtain ⟨⟨q0, q1, q2, q3⟩, _, _⟩ := At.four HP.r
          exact bodyPost_ret (v := .agg #[.int .i64 12, .int .i64 0, .string ⟨#[]⟩, .nilFunc]) (by simp [results, Tryz.results76, go_sem, q0, q1, q2, q3]) rfl ⟨_, rfl, HP.bel, Or.inl ⟨rfl, rfl⟩⟩
        · have hd2 : decide ((sd.size : Int) ≤ an) = false := decide_eq_false h2
          rw [hd2]
          have HE2 := Lib.hid (HE.out.trans (if_neg h2))
          clear HE h2 hd2
          have HE := HE2
          clear HE2
          go_upto_region 10 with (fail)
          obtain ⟨W2, hW2⟩ : ∃ W2, W2 = wc := ⟨_, rfl⟩
          subst hW2
          have HM1 := Lib.hid (HM.out.below HX.out.bel)
          have HR2 : Hid (W.heap.size + 1 < K ∧ K < W2.heap.size) := Lib.hid ⟨HR1.out, HK.out.hi⟩
          go_cut [6] (fun s6 wx => ∃ O, s6 = .pointer (some ⟨O, 0, none⟩) ∧ Hid (Nb W2 wx O [.string TD]))
          case first =>
            have HX0 := HX
            replace HX := Lib.hid (HX.out.below (Below.refl _ _).drew)
            have hT : W.heap.size < W2.heap.size := HX0.out.t.hi
            have hM : l.M < W2.heap.size := (HM.out.below HX0.out.bel).m.hi
            have e1 : ¬ W2.heap.size = W.heap.size := by omega
            have e2 : ¬ W.heap.size = W2.heap.size := by omega
            have e3 : ¬ W2.heap.size = l.M := by omega
            have e4 : ¬ l.M = W2.heap.size := by omega
            have hm1 : l.F < W2.heap.size := HM1.out.hi _ (by simp [vs])
            have f1a : ¬ W2.heap.size = l.F := by omega
            have f1b : ¬ l.F = W2.heap.size := by omega
            have hm2 : K < W2.heap.size := HR2.out.2
            have f2a : ¬ W2.heap.size = K := by omega
            have f2b : ¬ K = W2.heap.size := by omega
            have yt0 := HX0.out.t.cell 0 (.pointer (some ⟨l.M, 0, none⟩)) (by rw [HCS.out]; rfl); have yt9 := HX0.out.t.cell 9 (.string o.dat) (by rw [HCS.out]; rfl); have ymF := (HM.out.below HX0.out.bel).cF; have ya := (HM.out.below HX0.out.bel).f.cell f (.string sd) HFC.out; have yd := (HK.out).cell 2 (.int .i64 (f : Int)) (by rw [← HFI.out]; rfl)
            have t0 := HX.out.t.cell 0 (.pointer (some ⟨l.M, 0, none⟩)) (by rw [HCS.out]; rfl); have t9 := HX.out.t.cell 9 (.string o.dat) (by rw [HCS.out]; rfl); have mF := (HM.out.below HX.out.bel).cF; have a := (HM.out.below HX.out.bel).f.cell f (.string sd) HFC.out; have d := (HK.out.below ((Below.refl W2.heap.size W2).drew) HK.out.hi).cell 2 (.int .i64 (f : Int)) (by rw [← HFI.out]; rfl)
            go_region_held3 (fun w' => w'.cell? ⟨W.heap.size, 0, none⟩ = some (.pointer (some ⟨l.M, 0, none⟩)) ∧ w'.cell? ⟨W.heap.size, 9, none⟩ = some (.string o.dat) ∧ w'.cell? ⟨l.M, 21, none⟩ = some (.slice (some ⟨l.F, 0, none⟩) s.fs.length s.fs.length) ∧ w'.cell? ⟨l.F, f, none⟩ = some (.string sd) ∧ w'.cell? ⟨K, 2, none⟩ = some (.int .i64 (f : Int))) (go_keep) (first | (go_at_call 95; refine (HCB.out _).mono ?_; rintro e w2 ⟨rfl, hb⟩; (first | (have HA := Lib.hid hb; have HKB := Lib.hid (HK.out.below ((Below.refl W2.heap.size W2).drew.trans hb) HK.out.hi); replace HX := Lib.hid (HX.out.below hb)) | (have HB := Lib.hid hb; have HKB := Lib.hid (HK.out.below (((Below.refl W2.heap.size W2).alloc (Nat.le_refl _) _).drew.trans (hb.mono (by show W2.heap.size ≤ (W2.alloc _).heap.size; rw [Des.alloc_size]; omega))) HK.out.hi); obtain ⟨_, f0, fh⟩ := At.one (((At.new W2 [.string ⟨#[]⟩] 9).drew).below hb (by show W2.heap.size < (W2.alloc _).heap.size; rw [Des.alloc_size]; omega)); replace HX := Lib.hid ((HX.out.below ((Below.refl _ _).alloc (Nat.le_refl _) _)).below hb))); clear hb t0 t9 mF a d; have t0 := HX.out.t.cell 0 (.pointer (some ⟨l.M, 0, none⟩)) (by rw [HCS.out]; rfl); have t9 := HX.out.t.cell 9 (.string o.dat) (by rw [HCS.out]; rfl); have mF := (HM.out.below HX.out.bel).cF; have a := (HM.out.below HX.out.bel).f.cell f (.string sd) HFC.out; have d := (HKB.out).cell 2 (.int .i64 (f : Int)) (by rw [← HFI.out]; rfl)))
            all_goals
              go_wp2_with fail
              go_meet
              first | exact ⟨_, rfl, Lib.hid (Nb.after ((Below.refl W2.heap.size W2).drew.trans HA.out) [.string TD] 9)⟩ | exact ⟨_, rfl, Lib.hid (Nb.before (T := 9) (zs := [.string ⟨#[]⟩]) ((Below.refl (W2.alloc _).heap.size (W2.alloc _)).drew.trans HB.out) [.string TD] rfl)⟩
          case rest =>
          obtain ⟨O, rfl, HO⟩ := hcut
          replace HX := Lib.hid (HX.out.below HO.out.bel)
          replace HK := Lib.hid (HK.out.below HO.out.bel HK.out.hi)
          clear HCB
          obtain ⟨PR1, PR2⟩ := PR
          obtain ⟨rfl, rfl⟩ : PR1 = _ ∧ PR2 = _ := by have := HE.out; exact ⟨congrArg Prod.fst this, congrArg Prod.snd this⟩
          clear HE
          replace hmf := hmf'.out
          obtain ⟨_, ⟨r0, r1, r2, r3⟩, rh⟩ := At.four HX.out.r
          obtain ⟨rc0, rc1, rc2, rc3⟩ := (At.four HX.out.r).1
          go_wp2_with fail
          generalize hwB : (((wc.setCell ⟨W.heap.size + 1, 0, none⟩ (.int .i64 0)).setCell ⟨W.heap.size + 1, 1, none⟩ (.int .i64 1)).setCell ⟨W.heap.size + 1, 2, none⟩ (.string ⟨#[]⟩)).setCell ⟨W.heap.size + 1, 3, none⟩ (.func (.func 112) #[] #[.pointer (some ⟨W.heap.size, 0, none⟩), .pointer (some ⟨K, 0, none⟩), .pointer (some ⟨O, 0, none⟩)]) = w9 at *
          have HP : Bx2 W w9 W.heap.size (W.heap.size + 1) cs [.int .i64 0, .int .i64 1, .string ⟨#[]⟩, .func (.func 112) #[] #[.pointer (some ⟨W.heap.size, 0, none⟩), .pointer (some ⟨K, 0, none⟩), .pointer (some ⟨O, 0, none⟩)]] := by rw [← hwB]; exact HX.out.putR [.int .i64 0, .int .i64 1, .string ⟨#[]⟩, .func (.func 112) #[] #[.pointer (some ⟨W.heap.size, 0, none⟩), .pointer (some ⟨K, 0, none⟩), .pointer (some ⟨O, 0, none⟩)]] rfl
          skip
          have HAK : Hid (At w9 K (Ara.Ar.cells A)) := Lib.hid (by rw [← hwB]; exact HK.out.apart (by have := HR2.out; omega) 0 [.int .i64 0, .int .i64 1, .string ⟨#[]⟩, .func (.func 112) #[] #[.pointer (some ⟨W.heap.size, 0, none⟩), .pointer (some ⟨K, 0, none⟩), .pointer (some ⟨O, 0, none⟩)]])
          have HAO : Hid (At w9 O [.string TD]) := Lib.hid (by rw [← hwB]; exact HO.out.at'.apart (by have := HO.out.lo; have := HR2.out; omega) 0 [.int .i64 0, .int .i64 1, .string ⟨#[]⟩, .func (.func 112) #[] #[.pointer (some ⟨W.heap.size, 0, none⟩), .pointer (some ⟨K, 0, none⟩), .pointer (some ⟨O, 0, none⟩)]])
          clear r0 r1 r2 r3 rc0 rc1 rc2 rc3
          obtain ⟨⟨q0, q1, q2, q3⟩, _, _⟩ := At.four HP.r
          exact bodyPost_ret (v := .agg #[.int .i64 0, .int .i64 1, .string ⟨#[]⟩, .func (.func 112) #[] #[.pointer (some ⟨W.heap.size, 0, none⟩), .pointer (some ⟨K, 0, none⟩), .pointer (some ⟨O, 0, none⟩)]]) (by simp [results, Tryz.results76, go_sem, q0, q1, q2, q3]) rfl ⟨_, rfl, HP.bel, Or.inr ⟨112, _, rfl, fun _ _ => rfl, fun W2' hf2 => clo112 B l s p o x A f TD W.heap.size K O W2' (hf2.mm HP.bel) hfn (by omega) hn (hl f (by omega)) HFI.out (by rw [← HCS.out]; exact hf2.at HP.t HP.lo) (hf2.at HAK.out (by first | (have := HR2.out; omega) | (have := HO.out.lo; have := HR2.out; omega))) (hf2.at HAO.out (by first | (have := HR2.out; omega) | (have := HO.out.lo; have := HR2.out; omega)))⟩⟩
      · have h1' : ((o.dat.size : Int) == 1) = false := by simpa using h1
        obtain ⟨PR1, PR2⟩ := PR
        obtain ⟨rfl, rfl⟩ : PR1 = _ ∧ PR2 = _ := by have := HE.out.trans (if_pos h1); exact ⟨congrArg Prod.fst this, congrArg Prod.snd this⟩
        clear HE
        go_wp2_with fail
        refine (bad_any 2 _).mono ?_
        rintro e w5 ⟨rfl, hb⟩
        replace HX := Lib.hid (HX.out.below hb)
        clear hb
        obtain ⟨_, ⟨r0, r1, r2, r3⟩, rh⟩ := At.four HX.out.r
        obtain ⟨rc0, rc1, rc2, rc3⟩ := (At.four HX.out.r).1
        go_wp2_with fail
        generalize hwB : (((w5.setCell ⟨W.heap.size + 1, 0, none⟩ (.int .i64 2)).setCell ⟨W.heap.size + 1, 1, none⟩ (.int .i64 0)).setCell ⟨W.heap.size + 1, 2, none⟩ (.string ⟨#[]⟩)).setCell ⟨W.heap.size + 1, 3, none⟩ (.nilFunc) = w9 at *
        have HP : Bx2 W w9 W.heap.size (W.heap.size + 1) cs [.int .i64 2, .int .i64 0, .string ⟨#[]⟩, .nilFunc] := by rw [← hwB]; exact HX.out.putR [.int .i64 2, .int .i64 0, .string ⟨#[]⟩, .nilFunc] rfl
        skip
        clear r0 r1 r2 r3 rc0 rc1 rc2 rc3
        obtain ⟨⟨q0, q1, q2, q3⟩, _, _⟩ := At.four HP.r
        exact bodyPost_ret (v := .agg #[.int .i64 2, .int .i64 0, .string ⟨#[]⟩, .nilFunc]) (by simp [results, Tryz.results76, go_sem, q0, q1, q2, q3]) rfl ⟨_, rfl, HP.bel, Or.inl ⟨rfl, rfl⟩⟩
end Go.Proofs.YtimhaidiclbnhaaGreat.Ver
/- Layer 46: what an event makes of the model, as plain data; the plans by kind. -/
set_option linter.unusedSimpArgs false
set_option linter.unusedVariables false
set_option maxRecDepth 100000
namespace Go.Proofs.YtimhaidiclbnhaaGreat.Ver
open Go.ChangeShapes Go.WideShapes Go.ChangeAt Go.RowKit
open Des (Dv De Dn DIn DBlk DAns Vi At RowOf ints DSz)
open Ara (Ar ARow)
open Con (StrRow)

def stAt (s : St) (k : Nat) : List (List Int) := (List.range s.st.length).map fun i => if i < k then s.st.getD i [] ++ [((s.h.getD i ([], 0)).1.length : Int)] else s.st.getD i []
def stK (s : St) (k : Nat) : St := { s with st := stAt s k }
def stS (s : St) : St := stK s s.st.length
theorem stAt_len (s : St) (k : Nat) : (stAt s k).length = s.st.length := by simp [stAt]
theorem stAt_get (s : St) (k i : Nat) (hi : i < s.st.length) : (stAt s k).getD i [] = if i < k then s.st.getD i [] ++ [((s.h.getD i ([], 0)).1.length : Int)] else s.st.getD i [] := by
  simp [stAt, List.getD, hi]
theorem ext_getD {α : Type} (d : α) {a b : List α} (hl : a.length = b.length) (h : ∀ i, i < a.length → a.getD i d = b.getD i d) : a = b := by
  apply List.ext_getElem hl
  intro i h1 h2
  have := h i h1
  simpa [List.getD, h1, h2] using this
theorem stK_zero (s : St) : stK s 0 = s := by
  have e : stAt s 0 = s.st := ext_getD [] (stAt_len s 0) fun i hi => by
    rw [stAt_len] at hi
    rw [stAt_get s 0 i hi, if_neg (by omega)]
  unfold stK
  rw [e]
theorem stK_succ (s : St) (k : Nat) (hk : k < s.st.length) : { stK s k with st := (stK s k).st.set k ((stK s k).st.getD k [] ++ [((s.h.getD k ([], 0)).1.length : Int)]) } = stK s (k + 1) := by
  have e : (stAt s k).set k ((stAt s k).getD k [] ++ [((s.h.getD k ([], 0)).1.length : Int)]) = stAt s (k + 1) := ext_getD [] (by simp [stAt_len]) fun i hi => by
    rw [List.length_set, stAt_len] at hi
    rw [getD_set _ _ _ _ _ (by rw [stAt_len]; exact hk), stAt_get s (k + 1) i hi, stAt_get s k k hk, if_neg (by omega : ¬ k < k)]
    by_cases h : i = k
    · subst h
      rw [if_pos rfl, if_pos (by omega)]
    · rw [if_neg h, stAt_get s k i hi]
      by_cases h2 : i < k
      · rw [if_pos h2, if_pos (by omega)]
      · rw [if_neg h2, if_neg (by omega)]
  unfold stK
  simp only
  rw [e]
/-- what holds of the model behind K events -/
structure Ok (K : Nat) (s : St) : Prop where
  rt : Des.Rt s.d
  nf : s.fs.length ≤ 1000
  fa : s.fa.length = s.fs.length
  la : s.la.length = s.fs.length
  h : s.h.length = s.fs.length
  st : s.st.length = s.fs.length
  hl : ∀ i, i < s.h.length → (s.h.getD i ([], 0)).1.length ≤ K + 1
  sl : ∀ i, i < s.st.length → (s.st.getD i []).length ≤ K
  sv : ∀ i, i < s.st.length → ∀ z, z ∈ s.st.getD i [] → 0 ≤ z ∧ z ≤ K
  sz : ∀ y, y ∈ s.fs → y.size ≤ 1000
  ns : s.scr.length ≤ 1000
  ar : s.ar.length = s.scr.length
  al : ∀ p, (s.ar.getD p []).length ≤ 100
  af : ∀ p a, a ∈ s.ar.getD p [] → ∃ f : Nat, a.fi = (f : Int) ∧ f < s.fs.length
  bg : s.bg.length = s.scr.length
  fin : s.fin.length = s.scr.length
  fb : ∀ p, 0 ≤ s.fin.getD p 0 ∧ s.fin.getD p 0 ≤ K
  fab : ∀ f, 0 ≤ s.fa.getD f 0 ∧ s.fa.getD f 0 ≤ 1000000
  ops : ∀ p i, p < s.scr.length → i < (s.scr.getD p []).length → 1 ≤ ((s.scr.getD p []).getD i Opr.zero).kd ∧ ((s.scr.getD p []).getD i Opr.zero).kd ≤ 14 ∧ ((s.scr.getD p []).getD i Opr.zero).off ≤ 1000000 ∧ ((s.scr.getD p []).getD i Opr.zero).dat.size ≤ 1000
def planR (s : St) (p : Nat) (o : Opr) (x : Ev) : Res × St :=
  match o.kd.toNat with
  | 1 => openedR s p o
  | 2 => closedR s p o
  | 3 => readR s p o
  | 4 => writeR s p o
  | 5 => seekR s p o
  | 6 => truncateR s p o
  | 7 => punchR s p o
  | 8 => syncR s p o x
  | 9 => mappedR s p o
  | 10 => unmapR s p o
  | 11 => loadR s p o
  | 12 => storeR s p o
  | 13 => dupR s p o
  | _ => (⟨0, 0, ⟨#[]⟩⟩, s)
theorem af_find {s : St} {p : Nat} {o : Opr} (h : ∀ a, a ∈ s.ar.getD p [] → ∃ f : Nat, a.fi = (f : Int) ∧ f < s.fs.length) (hb : adB s p o = true) : ∃ f : Nat, (adA s p o).fi = (f : Int) ∧ f < s.fs.length := by
  unfold adB at hb
  unfold adA
  by_cases hz : o.off < 0
  · rw [if_pos hz] at hb; cases hb
  · rw [if_neg hz] at hb ⊢
    generalize hq : Ara.findV (s.ar.getD p []) ((o.off.toNat / 16 : Nat) : Int) = q at *
    cases q with
    | none => cases hb
    | some a =>
      refine h a ?_
      unfold Ara.findV at hq
      split at hq
      · exact List.mem_of_find?_eq_some hq
      · cases hq
theorem plan_any (K B : Nat) (l : Ly) (s : St) (p : Nat) (o : Opr) (x : Ev) (W : World) (h : Mm B W l s) (ok : Ok K s) (hK : K ≤ 9000) (hp : p < s.scr.length) (n : Nat) (hn : n < 14) (hk : o.kd = (n : Int) + 1) (hoff : o.off ≤ 1000000) (hdat : o.dat.size ≤ 1000) :
    Calls Tryz.prog (65 + n) #[stepV l.M (p : Int) o x] W (PlanP B W l s (planR s p o x).1 (planR s p o x).2) := by
  have hpa : p < s.ar.length := by rw [ok.ar]; exact hp
  have hl : ∀ i, i < s.h.length → (s.h.getD i ([], 0)).1.length ≤ 10000 := fun i hi => by have := ok.hl i hi; omega
  have hsl : ∀ i, i < s.st.length → (s.st.getD i []).length ≤ 10000 := fun i hi => by have := ok.sl i hi; omega
  have hsv : ∀ i, i < s.st.length → ∀ z, z ∈ s.st.getD i [] → 0 ≤ z ∧ z ≤ 1000000 := fun i hi z hz => by have := ok.sv i hi z hz; omega
  have hkn : o.kd.toNat = n + 1 := by omega
  have haf := af_find (o := o) (ok.af p)
  unfold planR
  rw [hkn]
  rcases n with _ | _ | _ | _ | _ | _ | _ | _ | _ | _ | _ | _ | _ | _ | n
  · exact opened_any B l s p o x W h ok.rt ok.nf ok.fa
  · exact closed_any B l s p o x W h ok.rt
  · exact read_any B l s p o x W h ok.rt ok.nf ok.sz
  · exact write_any B l s p o x W h ok.rt ok.nf ok.sz ok.h hl hdat
  · exact seek_any B l s p o x W h ok.rt ok.nf
  · exact truncate_any B l s p o x W h ok.rt ok.nf ok.sz ok.h hl
  · exact punch_any B l s p o x W h ok.rt ok.nf ok.sz ok.h hl
  · exact sync_any B l s p o x W h ok.rt ok.nf ok.fa ok.la ok.h ok.st hl hsl hsv
  · exact mapped_any B l s p o x W h ok.rt ok.nf hpa hp ok.ns (ok.al p)
  · exact unmap_any B l s p o x W h hpa hp ok.ns (ok.al p)
  · exact load_any B l s p o x W h hpa hp ok.nf ok.ns (ok.al p) hoff ok.sz haf
  · exact store_any B l s p o x W h hpa hp ok.nf ok.ns (ok.al p) hoff ok.sz haf ok.h hl hdat
  · exact dup_any B l s p o x W h ok.rt
  · exact wait_any B l s p o x W
  · omega
def evRes (x : Ev) : Res := ⟨x.er, x.n, x.dat⟩
def failS (s : St) (x : Ev) : St := { s with fa := s.fa.set x.fi.toNat (min (s.fa.getD x.fi.toNat 0 + 1) 1000000), la := s.la.set x.fi.toNat x.er }
def opAt (s : St) (p i : Nat) : Opr := (s.scr.getD p []).getD i Opr.zero
/-- what an event makes of the model, and what is wrong with it -/
def takeS (s : St) (i : Int) (x : Ev) : Int × St :=
  if x.pr = -1 then (if ordB (stS s) i x = true then 0 else 4, failS (ordS (stS s) x) x)
  else (if ordB (stS s) i x = true then judgeV (opAt s x.pr.toNat x.ix.toNat).kd (planR (ordS (stS s) x) x.pr.toNat (opAt s x.pr.toNat x.ix.toNat) x).1 (evRes x) else 4,
    if (opAt s x.pr.toNat x.ix.toNat).kd = 8 ∨ x.er = 0 then (planR (ordS (stS s) x) x.pr.toNat (opAt s x.pr.toNat x.ix.toNat) x).2 else ordS (stS s) x)
theorem getD_set0 {α : Type} (d : α) (l : List α) (i j : Nat) (a : α) : (l.set i a).getD j d = if j = i ∧ i < l.length then a else l.getD j d := by
  by_cases h : i < l.length
  · rw [getD_set l i j a d h]
    by_cases e : j = i
    · simp [e, h]
    · simp [e]
  · rw [List.set_eq_of_length_le (by omega), if_neg (fun hh => h hh.2)]
theorem ok_ord {K : Nat} {s : St} (x : Ev) (h : Ok K s) : Ok (K + 1) (ordS (stS s) x) := by
  have hst : Ok (K + 1) (stS s) := by
    refine ⟨h.rt, h.nf, h.fa, h.la, h.h, ?_, fun i hi => Nat.le_trans (h.hl i hi) (by omega), fun i hi => ?_, fun i hi z hz => ?_, h.sz, h.ns, h.ar, h.al, h.af, h.bg, h.fin, fun p => ⟨(h.fb p).1, Int.le_trans (h.fb p).2 (by omega)⟩, h.fab, h.ops⟩
    · show (stAt s s.st.length).length = _
      rw [stAt_len]; exact h.st
    · have hi : i < s.st.length := by have : i < (stAt s s.st.length).length := hi; rwa [stAt_len] at this
      show ((stAt s s.st.length).getD i []).length ≤ K + 1
      rw [stAt_get s _ i hi, if_pos hi, List.length_append]
      have := h.sl i hi
      rw [List.length_singleton]; omega
    · have hi : i < s.st.length := by have : i < (stAt s s.st.length).length := hi; rwa [stAt_len] at this
      have hz : z ∈ (stAt s s.st.length).getD i [] := hz
      rw [stAt_get s _ i hi, if_pos hi, List.mem_append] at hz
      rcases hz with hz | hz
      · have := h.sv i hi z hz; omega
      · simp at hz
        have := h.hl i (by have := h.h; have := h.st; omega)
        simp only [List.getD_eq_getElem?_getD] at this
        omega
  have hfb : ∀ p, 0 ≤ (stS s).fin.getD p 0 ∧ (stS s).fin.getD p 0 ≤ K := h.fb
  generalize stS s = t at *
  unfold ordS
  split
  · exact { hst with }
  · refine { hst with bg := ?_, fin := ?_, fb := ?_ }
    · show (t.bg.set _ _).length = _
      rw [List.length_set]; exact hst.bg
    · show (t.fin.set _ _).length = _
      rw [List.length_set]; exact hst.fin
    · intro j
      show 0 ≤ (t.fin.set x.pr.toNat (t.fin.getD x.pr.toNat 0 + 1)).getD j 0 ∧ (t.fin.set x.pr.toNat (t.fin.getD x.pr.toNat 0 + 1)).getD j 0 ≤ ((K + 1 : Nat) : Int)
      rw [getD_set0]
      have h1 := hfb x.pr.toNat
      have h2 := hfb j
      split <;> omega
/-- between two worlds only the model has changed -/
structure Tk (B : Nat) (W0 W : World) (l0 l : Ly) (s : St) : Prop where
  m : Mm B W l s
  v : Vk (vs l0) W0 W
  n : ∀ b, b ∈ vs l → b ∈ vs l0 ∨ W0.heap.size ≤ b
  M : l.M = l0.M
  ex : l.ex = l0.ex
theorem Tk.refl {B : Nat} {W : World} {l : Ly} {s : St} (h : Mm B W l s) : Tk B W W l l s := ⟨h, Vk.refl _ _, fun _ h => Or.inl h, rfl, rfl⟩
theorem Tk.step {B : Nat} {W0 W W' : World} {l0 l l' : Ly} {s s' : St} (h : Tk B W0 W l0 l s) (m : Mm B W' l' s') (v : Vk (vs l) W W') (n : ∀ b, b ∈ vs l' → b ∈ vs l ∨ W.heap.size ≤ b) (hM : l'.M = l.M) (hE : l'.ex = l.ex) : Tk B W0 W' l0 l' s' := by
  refine ⟨m, ⟨v.os.trans h.v.os, v.tape.trans h.v.tape, v.output.trans h.v.output, Nat.le_trans h.v.size v.size, fun k hk hl => (v.block k (fun hm => ?_) (Nat.lt_of_lt_of_le hl h.v.size)).trans (h.v.block k hk hl)⟩, fun b hb => ?_, hM.trans h.M, hE.trans h.ex⟩
  · rcases h.n k hm with h1 | h1
    · exact hk h1
    · omega
  · rcases n b hb with h1 | h1
    · exact h.n b h1
    · exact Or.inr (Nat.le_trans h.v.size h1)
theorem Tk.same {B : Nat} {W0 W W' : World} {l0 l : Ly} {s s' : St} (h : Tk B W0 W l0 l s) (m : Mm B W' l s') (v : Vk (vs l) W W') : Tk B W0 W' l0 l s' := h.step m v (fun _ h => Or.inl h) rfl rfl
theorem Tk.below {B : Nat} {W0 W W' : World} {l0 l : Ly} {s : St} (h : Tk B W0 W l0 l s) (hb : Below W.heap.size W W') : Tk B W0 W' l0 l s := h.same (h.m.below hb) (Vk.ofBelow hb)
/-- a variable beside the model -/
theorem Tk.at {W W' : World} {l : Ly} {b : Nat} {cs : List Value} (h : At W b cs) (v : Vk (vs l) W W') (hb : b ∉ vs l) : At W' b cs := At.keepB h v.size (v.block b hb h.hi)
end Go.Proofs.YtimhaidiclbnhaaGreat.Ver
