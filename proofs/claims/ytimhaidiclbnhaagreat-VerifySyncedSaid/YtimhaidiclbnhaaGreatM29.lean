/- Layer 46, shared texts of this seat, part 29. -/
import Derived.Test.YtimhaidiclbnhaaGreatM28
/- Layer 46: the plans of punch. -/
set_option linter.unusedSimpArgs false
set_option linter.unusedVariables false
set_option maxRecDepth 100000
namespace Go.Proofs.YtimhaidiclbnhaaGreat.Ver
open Go.ChangeShapes Go.WideShapes Go.ChangeAt Go.RowKit
open Des (Dv De Dn DIn DBlk DAns Vi At RowOf ints DSz)
open Ara (Ar ARow)
open Con (StrRow)

theorem punch_ok {s : ByteArray} {off n : Int} (h : (Con.punchV s off n).2 = 0) : 0 ≤ off ∧ off ≤ 128 := by
  unfold Con.punchV at h
  by_cases h1 : Con.longB s = true
  · rw [if_pos h1] at h; simp at h
  · rw [if_neg h1] at h
    by_cases h2 : Con.badB off = true ∨ n < 0
    · rw [if_pos h2] at h; simp at h
    · have : ¬ (off < 0 ∨ 128 < off) := fun e => h2 (Or.inl (by unfold Con.badB; exact decide_eq_true e))
      omega
def punchR (s : St) (p : Int) (o : Opr) : Res × St :=
  if lkE s p o.fd 2 ≠ 0 then (badR (lkE s p o.fd 2), s) else if (Con.punchV (s.fs.getD (Des.lookV s.d p o.fd).fi.toNat ⟨#[]⟩) o.off o.len).2 ≠ 0 ∨ 128 - o.off < o.len then (badR 2, s) else (⟨0, 0, ⟨#[]⟩⟩, chS s (Des.lookV s.d p o.fd).fi.toNat (Con.punchV (s.fs.getD (Des.lookV s.d p o.fd).fi.toNat ⟨#[]⟩) o.off o.len).1)
set_option maxHeartbeats 8000000 in
theorem punch_any (B : Nat) (l : Ly) (s : St) (p : Int) (o : Opr) (x : Ev) (W : World) (h : Mm B W l s) (hr : Des.Rt s.d) (hn : s.fs.length ≤ 1000) (hsz : ∀ y, y ∈ s.fs → y.size ≤ 1000) (hfh : s.h.length = s.fs.length) (hl : ∀ i, i < s.h.length → (s.h.getD i ([], 0)).1.length ≤ 10000) :
    Calls Tryz.prog 71 #[stepV l.M p o x] W (PlanP B W l s (punchR s p o).1 (punchR s p o).2) := by
  have HLK : Hid (∀ W', Below W.heap.size W W' → Calls Tryz.prog 91 #[stepV l.M p o x, .int .i64 2] W' (RetW (.tuple #[.int .i64 (Des.numV s.d p o.fd), .agg #[.int .i64 (Des.lookV s.d p o.fd).fi, .int .i64 (Des.lookV s.d p o.fd).fl, .int .i64 (Des.lookV s.d p o.fd).f, .int .i64 (Des.lookV s.d p o.fd).cu, .int .i64 (Des.lookV s.d p o.fd).rf], .int .i64 (lkE s p o.fd 2)]) W')) := Lib.hid fun W' hb => lookup_any' B l s p o x 2 W' (h.below hb) hr hn
  have HM := Lib.hid h
  have HCA : Hid (∀ (sd : ByteArray) W', sd.size ≤ 1000 → Calls Tryz.prog 102 #[.string sd, .int .i64 o.off, .int .i64 o.len] W' (RetW (.tuple #[.string (Con.punchV sd o.off o.len).1, .int .i64 (Con.punchV sd o.off o.len).2]) W')) := Lib.hid fun sd W' hs => Con.punch_any sd o.off o.len W' (by unfold maxLen; omega)
  have HLZ : Hid (lkE s p o.fd 2 = 0 → ∃ f : Nat, (Des.lookV s.d p o.fd).fi = (f : Int) ∧ f < s.fs.length) := Lib.hid fun h0 => (lk_zero h0 hr).2.2.2
  have HE : Hid (punchR s p o = if lkE s p o.fd 2 ≠ 0 then (badR (lkE s p o.fd 2), s) else if (Con.punchV (s.fs.getD (Des.lookV s.d p o.fd).fi.toNat ⟨#[]⟩) o.off o.len).2 ≠ 0 ∨ 128 - o.off < o.len then (badR 2, s) else (⟨0, 0, ⟨#[]⟩⟩, chS s (Des.lookV s.d p o.fd).fi.toNat (Con.punchV (s.fs.getD (Des.lookV s.d p o.fd).fi.toNat ⟨#[]⟩) o.off o.len).1)) := Lib.hid rfl
  have HX := Lib.hid (Bx2.start W (stepC l.M p o x) [.int .i64 0, .int .i64 0, .string ⟨#[]⟩, .nilFunc] 122 114)
  have hmf : ∀ (fn : Fn) (first cap : Array Value) (w : World), (Instr.makeFunc fn first cap).run Tryz.prog w = .ok (.func fn first cap) w := fun _ _ _ _ => rfl
  unfold stepV at HLK ⊢
  obtain ⟨cs, hcs⟩ : ∃ cs, cs = stepC l.M p o x := ⟨_, rfl⟩
  have HCS := Lib.hid hcs
  rw [← hcs] at HX HLK ⊢
  clear hcs h
  generalize punchR s p o = PR at *
  generalize lkE s p o.fd 2 = le at *
  generalize Des.numV s.d p o.fd = nv at *
  generalize Des.lookV s.d p o.fd = D at *
  go_enter Tryz.func71, Tryz.ntmps71
  go_upto_region 1 with (fail)
  generalize World.alloc _ (Obj.cells #[.int .i64 0, .int .i64 0, .string ⟨#[]⟩, .nilFunc] 114) = W0 at *
  have hmf' := Lib.hid hmf
  clear hmf
  go_wp2_with (with_reducible refine Des.hold_load 122 rfl ?_)
  refine Des.load_ato 0 HX.out.t.r Tryz.underlying122 rfl (by rw [HCS.out]; exact size122) rfl rfl rfl ?_
  go_wp2_with fail
  refine (HLK.out _ HX.out.bel).mono ?_
  rintro e w1 ⟨rfl, hb⟩
  replace HX := Lib.hid (HX.out.below hb)
  clear hb HLK
  have HR1 : Hid (W.heap.size + 1 < w1.heap.size) := Lib.hid HX.out.r.hi
  have HK := Lib.hid (At.new w1 [.int .i64 D.fi, .int .i64 D.fl, .int .i64 D.f, .int .i64 D.cu, .int .i64 D.rf] 126)
  have HBK : Hid (Below w1.heap.size w1 (w1.alloc (.cells ([.int .i64 D.fi, .int .i64 D.fl, .int .i64 D.f, .int .i64 D.cu, .int .i64 D.rf] : List Value).toArray 126))) := Lib.hid ((Below.refl _ _).alloc (Nat.le_refl _) _)
  by_cases hz : le = 0
  · subst hz
    have HE2 := Lib.hid (HE.out.trans (if_neg (by simp)))
    clear HE
    have HE := HE2
    clear HE2
    obtain ⟨f, hf, hfn⟩ := HLZ.out rfl
    rw [hf, Int.toNat_natCast] at HE
    have HFI : Hid (D.fi = (f : Int)) := Lib.hid hf
    have hsd : (s.fs.getD f ⟨#[]⟩).size ≤ 1000 := hsz _ (by rw [List.getD_eq_getElem?_getD, List.getElem?_eq_getElem hfn]; exact List.getElem_mem hfn)
    have HFC := Lib.hid (fs_at s.fs f hfn)
    generalize s.fs.getD f ⟨#[]⟩ = sd at *
    have HCB := Lib.hid (fun W' => HCA.out sd W' hsd)
    clear HCA HLZ hf hsd
    obtain ⟨TD, TE, hte⟩ : ∃ TD TE, Con.punchV sd o.off o.len = (TD, TE) := ⟨_, _, rfl⟩
    rw [hte] at HE HCB
    simp only at HE HCB
    have HOK : Hid (TE = 0 → 0 ≤ o.off ∧ o.off ≤ 128) := Lib.hid (fun e => punch_ok (by rw [hte]; exact e)); clear hte
    have hfI : (f : Int) < (s.fs.length : Int) := by omega
    have hnI : (s.fs.length : Int) ≤ 1000 := by omega
    go_upto_region 4 with (fail)
    generalize w1.alloc (Obj.cells #[.int .i64 D.fi, .int .i64 D.fl, .int .i64 D.f, .int .i64 D.cu, .int .i64 D.rf] 126) = W1 at *
    replace HX := Lib.hid (HX.out.below HBK.out)
    generalize w1.heap.size = K at *
    have HM1 := Lib.hid (HM.out.below HX.out.bel)
    have HKN : Hid (W.heap.size + 1 < K) := HR1
    have HKh : Hid (K < W1.heap.size) := Lib.hid HK.out.hi
    go_cut [5, 6] (fun s5 s6 wx => ∃ O, s5 = .int .i64 TE ∧ s6 = .pointer (some ⟨O, 0, none⟩) ∧ Hid (Nb W1 wx O [.string TD]))
    case first =>
      have HX0 := HX
      replace HX := Lib.hid (HX.out.below (Below.refl _ _).drew)
      have hT : W.heap.size < W1.heap.size := HX0.out.t.hi
      have hM : l.M < W1.heap.size := (HM.out.below HX0.out.bel).m.hi
      have e1 : ¬ W1.heap.size = W.heap.size := by omega
      have e2 : ¬ W.heap.size = W1.heap.size := by omega
      have e3 : ¬ W1.heap.size = l.M := by omega
      have e4 : ¬ l.M = W1.heap.size := by omega
      have hm1 : l.F < W1.heap.size := HM1.out.hi _ (by simp [vs])
      have f1a : ¬ W1.heap.size = l.F := by omega
      have f1b : ¬ l.F = W1.heap.size := by omega
      have hm2 : K < W1.heap.size := HKh.out
      have f2a : ¬ W1.heap.size = K := by omega
      have f2b : ¬ K = W1.heap.size := by omega
      have yt0 := HX0.out.t.cell 0 (.pointer (some ⟨l.M, 0, none⟩)) (by rw [HCS.out]; rfl); have yt6 := HX0.out.t.cell 6 (.int .i64 o.off) (by rw [HCS.out]; rfl); have yt7 := HX0.out.t.cell 7 (.int .i64 o.len) (by rw [HCS.out]; rfl); have ymF := (HM.out.below HX0.out.bel).cF; have ya := (HM.out.below HX0.out.bel).f.cell f (.string sd) HFC.out; have yd := HK.out.cell 0 (.int .i64 (f : Int)) (by rw [← HFI.out]; rfl)
      have t0 := HX.out.t.cell 0 (.pointer (some ⟨l.M, 0, none⟩)) (by rw [HCS.out]; rfl); have t6 := HX.out.t.cell 6 (.int .i64 o.off) (by rw [HCS.out]; rfl); have t7 := HX.out.t.cell 7 (.int .i64 o.len) (by rw [HCS.out]; rfl); have mF := (HM.out.below HX.out.bel).cF; have a := (HM.out.below HX.out.bel).f.cell f (.string sd) HFC.out; have d := (HK.out.below ((Below.refl W1.heap.size W1).drew) HK.out.hi).cell 0 (.int .i64 (f : Int)) (by rw [← HFI.out]; rfl)
      go_region_held3 (fun w' => w'.cell? ⟨W.heap.size, 0, none⟩ = some (.pointer (some ⟨l.M, 0, none⟩)) ∧ w'.cell? ⟨W.heap.size, 6, none⟩ = some (.int .i64 o.off) ∧ w'.cell? ⟨W.heap.size, 7, none⟩ = some (.int .i64 o.len) ∧ w'.cell? ⟨l.M, 21, none⟩ = some (.slice (some ⟨l.F, 0, none⟩) s.fs.length s.fs.length) ∧ w'.cell? ⟨l.F, f, none⟩ = some (.string sd) ∧ w'.cell? ⟨K, 0, none⟩ = some (.int .i64 (f : Int))) (go_keep) (first | (go_at_call 102; refine (HCB.out _).mono ?_; rintro e w2 ⟨rfl, hb⟩; (first | (have HA := Lib.hid hb; have HKB := Lib.hid (HK.out.below ((Below.refl W1.heap.size W1).drew.trans hb) HK.out.hi); replace HX := Lib.hid (HX.out.below hb)) | (have HB := Lib.hid hb; have HKB := Lib.hid (HK.out.below (((Below.refl W1.heap.size W1).alloc (Nat.le_refl _) _).drew.trans (hb.mono (by show W1.heap.size ≤ (W1.alloc _).heap.size; rw [Des.alloc_size]; omega))) HK.out.hi); obtain ⟨_, f0, fh⟩ := At.one (((At.new W1 [.string ⟨#[]⟩] 9).drew).below hb (by show W1.heap.size < (W1.alloc _).heap.size; rw [Des.alloc_size]; omega)); replace HX := Lib.hid ((HX.out.below ((Below.refl _ _).alloc (Nat.le_refl _) _)).below hb))); clear hb t0 t6 t7 mF a d; have t0 := HX.out.t.cell 0 (.pointer (some ⟨l.M, 0, none⟩)) (by rw [HCS.out]; rfl); have t6 := HX.out.t.cell 6 (.int .i64 o.off) (by rw [HCS.out]; rfl); have t7 := HX.out.t.cell 7 (.int .i64 o.len) (by rw [HCS.out]; rfl); have mF := (HM.out.below HX.out.bel).cF; have a := (HM.out.below HX.out.bel).f.cell f (.string sd) HFC.out; have d := (HKB.out).cell 0 (.int .i64 (f : Int)) (by rw [← HFI.out]; rfl)))
      all_goals
        go_wp2_with fail
        go_meet
        first | exact ⟨_, rfl, rfl, Lib.hid (Nb.after ((Below.refl W1.heap.size W1).drew.trans HA.out) [.string TD] 9)⟩ | exact ⟨_, rfl, rfl, Lib.hid (Nb.before (T := 9) (zs := [.string ⟨#[]⟩]) ((Below.refl (W1.alloc _).heap.size (W1.alloc _)).drew.trans HB.out) [.string TD] rfl)⟩
    case rest =>
    obtain ⟨O, rfl, rfl, HO⟩ := hcut
    replace HX := Lib.hid (HX.out.below HO.out.bel)
    replace HK := Lib.hid (HK.out.below HO.out.bel HK.out.hi)
    clear HCB
    by_cases hu : TE = 0
    · subst hu
      obtain ⟨g0, g1⟩ := HOK.out rfl
      have t6 := HX.out.t.cell 6 (.int .i64 o.off) (by rw [HCS.out]; rfl); have t7 := HX.out.t.cell 7 (.int .i64 o.len) (by rw [HCS.out]; rfl)
      by_cases hv : 128 - o.off < o.len
      · obtain ⟨PR1, PR2⟩ := PR
        obtain ⟨rfl, rfl⟩ : PR1 = _ ∧ PR2 = _ := by have := HE.out.trans (if_pos (Or.inr hv)); exact ⟨congrArg Prod.fst this, congrArg Prod.snd this⟩
        clear HE
        go_wp2_with fail
        refine (bad_any 2 _).mono ?_
        rintro e w5 ⟨rfl, hb⟩
        replace HX := Lib.hid (HX.out.below hb)
        clear hb
        obtain ⟨_, ⟨r0, r1, r2, r3⟩, rh⟩ := At.four HX.out.r
        obtain ⟨rc0, rc1, rc2, rc3⟩ := (At.four HX.out.r).1
        go_wp2_with fail
        generalize hwB : (((w5.setCell ⟨W.heap.size + 1, 0, none⟩ (.int .i64 2)).setCell ⟨W.heap.size + 1, 1, none⟩ (.int .i64 0)).setCell ⟨W.heap.size + 1, 2, none⟩ (.string ⟨#[]⟩)).setCell ⟨W.heap.size + 1, 3, none⟩ (.nilFunc) = w9 at *
        have HP : Bx2 W w9 W.heap.size (W.heap.size + 1) cs [.int .i64 2, .int .i64 0, .string ⟨#[]⟩, .nilFunc] := by rw [← hwB]; exact HX.out.putR [.int .i64 2, .int .i64 0, .string ⟨#[]⟩, .nilFunc] rfl
        skip
        clear r0 r1 r2 r3 rc0 rc1 rc2 rc3
        obtain ⟨⟨q0, q1, q2, q3⟩, _, _⟩ := At.four HP.r
        exact bodyPost_ret (v := .agg #[.int .i64 2, .int .i64 0, .string ⟨#[]⟩, .nilFunc]) (by simp [results, Tryz.results71, go_sem, q0, q1, q2, q3]) rfl ⟨_, rfl, HP.bel, Or.inl ⟨rfl, rfl⟩⟩
      · obtain ⟨PR1, PR2⟩ := PR
        obtain ⟨rfl, rfl⟩ : PR1 = _ ∧ PR2 = _ := by have := HE.out.trans (if_neg (by simp; omega)); exact ⟨congrArg Prod.fst this, congrArg Prod.snd this⟩
        clear HE
        replace hmf := hmf'.out
        obtain ⟨_, ⟨r0, r1, r2, r3⟩, rh⟩ := At.four HX.out.r
        obtain ⟨rc0, rc1, rc2, rc3⟩ := (At.four HX.out.r).1
        go_wp2_with fail
        generalize hwB : (((wc.setCell ⟨W.heap.size + 1, 0, none⟩ (.int .i64 0)).setCell ⟨W.heap.size + 1, 1, none⟩ (.int .i64 0)).setCell ⟨W.heap.size + 1, 2, none⟩ (.string ⟨#[]⟩)).setCell ⟨W.heap.size + 1, 3, none⟩ (.func (.func 103) #[] #[.pointer (some ⟨W.heap.size, 0, none⟩), .pointer (some ⟨K, 0, none⟩), .pointer (some ⟨O, 0, none⟩)]) = w9 at *
        have HP : Bx2 W w9 W.heap.size (W.heap.size + 1) cs [.int .i64 0, .int .i64 0, .string ⟨#[]⟩, .func (.func 103) #[] #[.pointer (some ⟨W.heap.size, 0, none⟩), .pointer (some ⟨K, 0, none⟩), .pointer (some ⟨O, 0, none⟩)]] := by rw [← hwB]; exact HX.out.putR [.int .i64 0, .int .i64 0, .string ⟨#[]⟩, .func (.func 103) #[] #[.pointer (some ⟨W.heap.size, 0, none⟩), .pointer (some ⟨K, 0, none⟩), .pointer (some ⟨O, 0, none⟩)]] rfl
        skip
        have HAK : Hid (At w9 K (dnL D)) := Lib.hid (by rw [← hwB]; exact HK.out.apart (by have := HKN.out; omega) 0 [.int .i64 0, .int .i64 0, .string ⟨#[]⟩, .func (.func 103) #[] #[.pointer (some ⟨W.heap.size, 0, none⟩), .pointer (some ⟨K, 0, none⟩), .pointer (some ⟨O, 0, none⟩)]])
        have HAO : Hid (At w9 O [.string TD]) := Lib.hid (by rw [← hwB]; exact HO.out.at'.apart (by have := HO.out.lo; have := HKh.out; have := HKN.out; omega) 0 [.int .i64 0, .int .i64 0, .string ⟨#[]⟩, .func (.func 103) #[] #[.pointer (some ⟨W.heap.size, 0, none⟩), .pointer (some ⟨K, 0, none⟩), .pointer (some ⟨O, 0, none⟩)]])
        clear r0 r1 r2 r3 rc0 rc1 rc2 rc3
        obtain ⟨⟨q0, q1, q2, q3⟩, _, _⟩ := At.four HP.r
        exact bodyPost_ret (v := .agg #[.int .i64 0, .int .i64 0, .string ⟨#[]⟩, .func (.func 103) #[] #[.pointer (some ⟨W.heap.size, 0, none⟩), .pointer (some ⟨K, 0, none⟩), .pointer (some ⟨O, 0, none⟩)]]) (by simp [results, Tryz.results71, go_sem, q0, q1, q2, q3]) rfl ⟨_, rfl, HP.bel, Or.inr ⟨103, _, rfl, fun _ _ => rfl, fun W2' hf2 => clo103 B l s p o x D f TD W.heap.size K O W2' (hf2.mm HP.bel) hfn (by omega) hn (hl f (by omega)) HFI.out (by rw [← HCS.out]; exact hf2.at HP.t HP.lo) (hf2.at HAK.out (by first | omega | (have := HKN.out; omega) | (have := HO.out.lo; have := HKh.out; have := HKN.out; omega) | (have := HO.out.lo; have := HR1.out; omega) | (have := HN.out.lo; have := HR1.out; omega) | (have := HKN.out; have := HKh.out; omega) | (have := HOl.out; have := HKh.out; have := HKN.out; omega) | (have := HKN.out; have := HR1.out; omega) | (have := HOl.out; omega) | (have := HN.out.lo; have := HOl.out; have := HR1.out; omega) | (have := HKh.out; have := HOl.out; have := HR1.out; omega))) (hf2.at HAO.out (by first | omega | (have := HKN.out; omega) | (have := HO.out.lo; have := HKh.out; have := HKN.out; omega) | (have := HO.out.lo; have := HR1.out; omega) | (have := HN.out.lo; have := HR1.out; omega) | (have := HKN.out; have := HKh.out; omega) | (have := HOl.out; have := HKh.out; have := HKN.out; omega) | (have := HKN.out; have := HR1.out; omega) | (have := HOl.out; omega) | (have := HN.out.lo; have := HOl.out; have := HR1.out; omega) | (have := HKh.out; have := HOl.out; have := HR1.out; omega)))⟩⟩
    · have hu' : (TE == 0) = false := by simpa using hu
      obtain ⟨PR1, PR2⟩ := PR
      obtain ⟨rfl, rfl⟩ : PR1 = _ ∧ PR2 = _ := by have := HE.out.trans (if_pos (Or.inl hu)); exact ⟨congrArg Prod.fst this, congrArg Prod.snd this⟩
      clear HE
      have t6 := HX.out.t.cell 6 (.int .i64 o.off) (by rw [HCS.out]; rfl); have t7 := HX.out.t.cell 7 (.int .i64 o.len) (by rw [HCS.out]; rfl)
      go_wp2_with fail
      refine (bad_any 2 _).mono ?_
      rintro e w5 ⟨rfl, hb⟩
      replace HX := Lib.hid (HX.out.below hb)
      clear hb
      obtain ⟨_, ⟨r0, r1, r2, r3⟩, rh⟩ := At.four HX.out.r
      obtain ⟨rc0, rc1, rc2, rc3⟩ := (At.four HX.out.r).1
      go_wp2_with fail
      generalize hwB : (((w5.setCell ⟨W.heap.size + 1, 0, none⟩ (.int .i64 2)).setCell ⟨W.heap.size + 1, 1, none⟩ (.int .i64 0)).setCell ⟨W.heap.size + 1, 2, none⟩ (.string ⟨#[]⟩)).setCell ⟨W.heap.size + 1, 3, none⟩ (.nilFunc) = w9 at *
      have HP : Bx2 W w9 W.heap.size (W.heap.size + 1) cs [.int .i64 2, .int .i64 0, .string ⟨#[]⟩, .nilFunc] := by rw [← hwB]; exact HX.out.putR [.int .i64 2, .int .i64 0, .string ⟨#[]⟩, .nilFunc] rfl
      skip
      clear r0 r1 r2 r3 rc0 rc1 rc2 rc3
      obtain ⟨⟨q0, q1, q2, q3⟩, _, _⟩ := At.four HP.r
      exact bodyPost_ret (v := .agg #[.int .i64 2, .int .i64 0, .string ⟨#[]⟩, .nilFunc]) (by simp [results, Tryz.results71, go_sem, q0, q1, q2, q3]) rfl ⟨_, rfl, HP.bel, Or.inl ⟨rfl, rfl⟩⟩
  · have hz' : (le == 0) = false := by simpa using hz
    obtain ⟨PR1, PR2⟩ := PR
    obtain ⟨rfl, rfl⟩ : PR1 = _ ∧ PR2 = _ := by have := HE.out.trans (if_pos hz); exact ⟨congrArg Prod.fst this, congrArg Prod.snd this⟩
    clear HE
    clear HCA HLZ
    have HX9 := Lib.hid (HX.out.below HBK.out)
    replace HX := HX9
    go_upto_region 2 with (fail)
    generalize w1.alloc (Obj.cells #[.int .i64 D.fi, .int .i64 D.fl, .int .i64 D.f, .int .i64 D.cu, .int .i64 D.rf] 126) = W1 at *
    go_wp2_with fail
    refine (bad_any le _).mono ?_
    rintro e w5 ⟨rfl, hb⟩
    replace HX := Lib.hid (HX.out.below hb)
    clear hb
    obtain ⟨_, ⟨r0, r1, r2, r3⟩, rh⟩ := At.four HX.out.r
    obtain ⟨rc0, rc1, rc2, rc3⟩ := (At.four HX.out.r).1
    go_wp2_with fail
    generalize hwB : (((w5.setCell ⟨W.heap.size + 1, 0, none⟩ (.int .i64 le)).setCell ⟨W.heap.size + 1, 1, none⟩ (.int .i64 0)).setCell ⟨W.heap.size + 1, 2, none⟩ (.string ⟨#[]⟩)).setCell ⟨W.heap.size + 1, 3, none⟩ (.nilFunc) = w9 at *
    have HP : Bx2 W w9 W.heap.size (W.heap.size + 1) cs [.int .i64 le, .int .i64 0, .string ⟨#[]⟩, .nilFunc] := by rw [← hwB]; exact HX.out.putR [.int .i64 le, .int .i64 0, .string ⟨#[]⟩, .nilFunc] rfl
    skip
    clear r0 r1 r2 r3 rc0 rc1 rc2 rc3
    obtain ⟨⟨q0, q1, q2, q3⟩, _, _⟩ := At.four HP.r
    exact bodyPost_ret (v := .agg #[.int .i64 le, .int .i64 0, .string ⟨#[]⟩, .nilFunc]) (by simp [results, Tryz.results71, go_sem, q0, q1, q2, q3]) rfl ⟨_, rfl, HP.bel, Or.inl ⟨rfl, rfl⟩⟩
end Go.Proofs.YtimhaidiclbnhaaGreat.Ver
