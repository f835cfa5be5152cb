/- Layer 46, shared texts of this seat, part 30. -/
import Derived.Test.YtimhaidiclbnhaaGreatM29
import Derived.Test.YtimhaidiclbnhaaGreatM27
/- Layer 46: the plans of read. -/
set_option linter.unusedSimpArgs false
set_option linter.unusedVariables false
set_option maxRecDepth 100000
namespace Go.Proofs.YtimhaidiclbnhaaGreat.Ver
open Go.ChangeShapes Go.WideShapes Go.ChangeAt Go.RowKit
open Des (Dv De Dn DIn DBlk DAns Vi At RowOf ints DSz)
open Ara (Ar ARow)
open Con (StrRow)

theorem readV_size (s : ByteArray) (off n : Int) : (Con.readV s off n).1.size ≤ s.size := by
  unfold Con.readV
  split
  · exact Nat.zero_le _
  · split
    · exact Nat.zero_le _
    · show ByteArray.size (ByteArray.extract _ _ _) ≤ _
      rw [ByteArray.size_extract]
      omega
def readR (s : St) (p : Int) (o : Opr) : Res × St :=
  if lkE s p o.fd 1 ≠ 0 then (badR (lkE s p o.fd 1), s) else if o.len < 0 ∨ 64 < o.len then (badR 2, s) else (⟨0, ((Con.readV (s.fs.getD (Des.lookV s.d p o.fd).fi.toNat ⟨#[]⟩) (Des.lookV s.d p o.fd).f o.len).1.size : Int), (Con.readV (s.fs.getD (Des.lookV s.d p o.fd).fi.toNat ⟨#[]⟩) (Des.lookV s.d p o.fd).f o.len).1⟩, { s with d := Des.updD s.d (Des.numV s.d p o.fd) ((Des.lookV s.d p o.fd).f + ((Con.readV (s.fs.getD (Des.lookV s.d p o.fd).fi.toNat ⟨#[]⟩) (Des.lookV s.d p o.fd).f o.len).1.size : Int)) (Des.lookV s.d p o.fd).cu })
set_option maxHeartbeats 8000000 in
theorem read_any (B : Nat) (l : Ly) (s : St) (p : Int) (o : Opr) (x : Ev) (W : World) (h : Mm B W l s) (hr : Des.Rt s.d) (hn : s.fs.length ≤ 1000) (hsz : ∀ y, y ∈ s.fs → y.size ≤ 1000) :
    Calls Tryz.prog 67 #[stepV l.M p o x] W (PlanP B W l s (readR s p o).1 (readR s p o).2) := by
  have HLK : Hid (∀ W', Below W.heap.size W W' → Calls Tryz.prog 91 #[stepV l.M p o x, .int .i64 1] W' (RetW (.tuple #[.int .i64 (Des.numV s.d p o.fd), .agg #[.int .i64 (Des.lookV s.d p o.fd).fi, .int .i64 (Des.lookV s.d p o.fd).fl, .int .i64 (Des.lookV s.d p o.fd).f, .int .i64 (Des.lookV s.d p o.fd).cu, .int .i64 (Des.lookV s.d p o.fd).rf], .int .i64 (lkE s p o.fd 1)]) W')) := Lib.hid fun W' hb => lookup_any' B l s p o x 1 W' (h.below hb) hr hn
  have HM := Lib.hid h
  have HCA : Hid (∀ (sd : ByteArray) (f : Int) W', sd.size ≤ 1000 → Calls Tryz.prog 92 #[.string sd, .int .i64 f, .int .i64 o.len] W' (fun e w' => e = .returned (.tuple #[.string (Con.readV sd f o.len).1, .int .i64 (Con.readV sd f o.len).2]) ∧ W' = w')) := Lib.hid fun sd f W' hs => Con.read_any sd f o.len W' (by unfold maxLen; omega)
  have HLZ : Hid (lkE s p o.fd 1 = 0 → (0 ≤ (Des.lookV s.d p o.fd).f ∧ (Des.lookV s.d p o.fd).f ≤ 128) ∧ ∃ f : Nat, (Des.lookV s.d p o.fd).fi = (f : Int) ∧ f < s.fs.length) := Lib.hid fun h0 => ⟨by
    have h4 := (lk_zero h0 hr).2.2.1
    unfold Des.rightD Des.movB at h4
    rw [Bool.and_eq_true, Bool.and_eq_true] at h4
    exact of_decide_eq_true h4.2.1, (lk_zero h0 hr).2.2.2⟩
  have HE : Hid (readR s p o = if lkE s p o.fd 1 ≠ 0 then (badR (lkE s p o.fd 1), s) else if o.len < 0 ∨ 64 < o.len then (badR 2, s) else (⟨0, ((Con.readV (s.fs.getD (Des.lookV s.d p o.fd).fi.toNat ⟨#[]⟩) (Des.lookV s.d p o.fd).f o.len).1.size : Int), (Con.readV (s.fs.getD (Des.lookV s.d p o.fd).fi.toNat ⟨#[]⟩) (Des.lookV s.d p o.fd).f o.len).1⟩, { s with d := Des.updD s.d (Des.numV s.d p o.fd) ((Des.lookV s.d p o.fd).f + ((Con.readV (s.fs.getD (Des.lookV s.d p o.fd).fi.toNat ⟨#[]⟩) (Des.lookV s.d p o.fd).f o.len).1.size : Int)) (Des.lookV s.d p o.fd).cu })) := Lib.hid rfl
  have HX := Lib.hid (Bx2.start W (stepC l.M p o x) [.int .i64 0, .int .i64 0, .string ⟨#[]⟩, .nilFunc] 122 114)
  have hmf : ∀ (fn : Fn) (first cap : Array Value) (w : World), (Instr.makeFunc fn first cap).run Tryz.prog w = .ok (.func fn first cap) w := fun _ _ _ _ => rfl
  unfold stepV at HLK ⊢
  obtain ⟨cs, hcs⟩ : ∃ cs, cs = stepC l.M p o x := ⟨_, rfl⟩
  have HCS := Lib.hid hcs
  rw [← hcs] at HX HLK ⊢
  clear hcs h
  generalize readR s p o = PR at *
  generalize lkE s p o.fd 1 = le at *
  generalize Des.numV s.d p o.fd = nv at *
  generalize Des.lookV s.d p o.fd = D at *
  go_enter Tryz.func67, Tryz.ntmps67
  go_upto_region 1 with (fail)
  generalize World.alloc _ (Obj.cells #[.int .i64 0, .int .i64 0, .string ⟨#[]⟩, .nilFunc] 114) = W0 at *
  have hmf' := Lib.hid hmf
  clear hmf
  go_wp2_with (with_reducible refine Des.hold_load 122 rfl ?_)
  refine Des.load_ato 0 HX.out.t.r Tryz.underlying122 rfl (by rw [HCS.out]; exact size122) rfl rfl rfl ?_
  go_wp2_with fail
  refine (HLK.out _ HX.out.bel).mono ?_
  rintro e w1 ⟨rfl, hb⟩
  replace HX := Lib.hid (HX.out.below hb)
  clear hb HLK
  have HNK := Lib.hid (two_new w1 [.int .i64 nv] 3 [.int .i64 D.fi, .int .i64 D.fl, .int .i64 D.f, .int .i64 D.cu, .int .i64 D.rf] 126)
  have HR1 : Hid (W.heap.size + 1 < w1.heap.size) := Lib.hid HX.out.r.hi
  go_upto_region 2 with (fail)
  generalize ((w1.alloc (Obj.cells #[.int .i64 nv] 3)).alloc (Obj.cells #[.int .i64 D.fi, .int .i64 D.fl, .int .i64 D.f, .int .i64 D.cu, .int .i64 D.rf] 126)) = W1 at *
  replace HX := Lib.hid (HX.out.below HNK.out.2.2)
  have HN := Lib.hid HNK.out.1
  have HK := Lib.hid HNK.out.2.1
  have HKN : Hid (W.heap.size + 1 < w1.heap.size + 1 ∧ W.heap.size + 1 < w1.heap.size ∧ w1.heap.size ≠ w1.heap.size + 1) := Lib.hid (by have := HR1.out; omega)
  clear HNK HR1
  generalize w1.heap.size + 1 = K at *
  generalize w1.heap.size = N at *
  have t7 := HX.out.t.cell 7 (.int .i64 o.len) (by rw [HCS.out]; rfl)
  by_cases hz : le = 0
  · subst hz
    have HE2 := Lib.hid (HE.out.trans (if_neg (by simp)))
    clear HE
    have HE := HE2
    clear HE2
    by_cases hlen : o.len < 0 ∨ 64 < o.len
    · obtain ⟨PR1, PR2⟩ := PR
      obtain ⟨rfl, rfl⟩ : PR1 = _ ∧ PR2 = _ := by have := HE.out.trans (if_pos hlen); exact ⟨congrArg Prod.fst this, congrArg Prod.snd this⟩
      clear HE
      by_cases hlen1 : o.len < 0
      · skip
        go_wp2_with fail
        refine (bad_any 2 _).mono ?_
        rintro e w5 ⟨rfl, hb⟩
        replace HX := Lib.hid (HX.out.below hb)
        clear hb
        obtain ⟨_, ⟨r0, r1, r2, r3⟩, rh⟩ := At.four HX.out.r
        obtain ⟨rc0, rc1, rc2, rc3⟩ := (At.four HX.out.r).1
        go_wp2_with fail
        generalize hwB : (((w5.setCell ⟨W.heap.size + 1, 0, none⟩ (.int .i64 2)).setCell ⟨W.heap.size + 1, 1, none⟩ (.int .i64 0)).setCell ⟨W.heap.size + 1, 2, none⟩ (.string ⟨#[]⟩)).setCell ⟨W.heap.size + 1, 3, none⟩ (.nilFunc) = w9 at *
        have HP : Bx2 W w9 W.heap.size (W.heap.size + 1) cs [.int .i64 2, .int .i64 0, .string ⟨#[]⟩, .nilFunc] := by rw [← hwB]; exact HX.out.putR [.int .i64 2, .int .i64 0, .string ⟨#[]⟩, .nilFunc] rfl
        skip
        clear r0 r1 r2 r3 rc0 rc1 rc2 rc3
        obtain ⟨⟨q0, q1, q2, q3⟩, _, _⟩ := At.four HP.r
        exact bodyPost_ret (v := .agg #[.int .i64 2, .int .i64 0, .string ⟨#[]⟩, .nilFunc]) (by simp [results, Tryz.results67, go_sem, q0, q1, q2, q3]) rfl ⟨_, rfl, HP.bel, Or.inl ⟨rfl, rfl⟩⟩
      · skip
        have hlen2 : 64 < o.len := by omega
        go_wp2_with fail
        refine (bad_any 2 _).mono ?_
        rintro e w5 ⟨rfl, hb⟩
        replace HX := Lib.hid (HX.out.below hb)
        clear hb
        obtain ⟨_, ⟨r0, r1, r2, r3⟩, rh⟩ := At.four HX.out.r
        obtain ⟨rc0, rc1, rc2, rc3⟩ := (At.four HX.out.r).1
        go_wp2_with fail
        generalize hwB : (((w5.setCell ⟨W.heap.size + 1, 0, none⟩ (.int .i64 2)).setCell ⟨W.heap.size + 1, 1, none⟩ (.int .i64 0)).setCell ⟨W.heap.size + 1, 2, none⟩ (.string ⟨#[]⟩)).setCell ⟨W.heap.size + 1, 3, none⟩ (.nilFunc) = w9 at *
        have HP : Bx2 W w9 W.heap.size (W.heap.size + 1) cs [.int .i64 2, .int .i64 0, .string ⟨#[]⟩, .nilFunc] := by rw [← hwB]; exact HX.out.putR [.int .i64 2, .int .i64 0, .string ⟨#[]⟩, .nilFunc] rfl
        skip
        clear r0 r1 r2 r3 rc0 rc1 rc2 rc3
        obtain ⟨⟨q0, q1, q2, q3⟩, _, _⟩ := At.four HP.r
        exact bodyPost_ret (v := .agg #[.int .i64 2, .int .i64 0, .string ⟨#[]⟩, .nilFunc]) (by simp [results, Tryz.results67, go_sem, q0, q1, q2, q3]) rfl ⟨_, rfl, HP.bel, Or.inl ⟨rfl, rfl⟩⟩
    · have HE2 := Lib.hid (HE.out.trans (if_neg hlen))
      clear HE
      have HE := HE2
      clear HE2
      have hl1 : ¬ o.len < 0 := fun e => hlen (Or.inl e)
      have hl2 : ¬ 64 < o.len := fun e => hlen (Or.inr e)
      clear hlen
      obtain ⟨⟨hf0, hf1⟩, f, hf, hfn⟩ := HLZ.out rfl
      rw [hf, Int.toNat_natCast] at HE
      have HFI : Hid (D.fi = (f : Int)) := Lib.hid hf
      have hsd : (s.fs.getD f ⟨#[]⟩).size ≤ 1000 := hsz _ (by rw [List.getD_eq_getElem?_getD, List.getElem?_eq_getElem hfn]; exact List.getElem_mem hfn)
      have HFC := Lib.hid (fs_at s.fs f hfn)
      generalize s.fs.getD f ⟨#[]⟩ = sd at *
      have HCB := Lib.hid (fun W' => HCA.out sd D.f W' hsd)
      have hts := Nat.le_trans (readV_size sd D.f o.len) hsd
      clear HCA HLZ hf hsd
      obtain ⟨TD, TE, hte⟩ : ∃ TD TE, Con.readV sd D.f o.len = (TD, TE) := ⟨_, _, rfl⟩
      rw [hte] at HE HCB hts
      simp only at HE HCB hts
      clear hte
      have hfI : (f : Int) < (s.fs.length : Int) := by omega
      have hnI : (s.fs.length : Int) ≤ 1000 := by omega
      go_upto_region 6 with (fail)
      clear t7
      go_cut [6] (fun v wx => v = .string TD ∧ Hid (Below W1.heap.size W1 wx))
      case first =>
        replace HX := Lib.hid (HX.out.below (Below.refl _ _).drew)
        replace HK := Lib.hid (Des.At.drew HK.out)
        have t0 := HX.out.t.cell 0 (.pointer (some ⟨l.M, 0, none⟩)) (by rw [HCS.out]; rfl); have t7 := HX.out.t.cell 7 (.int .i64 o.len) (by rw [HCS.out]; rfl); have mF := (HM.out.below HX.out.bel).cF; have a := (HM.out.below HX.out.bel).f.cell f (.string sd) HFC.out; have d0 := HK.out.cell 0 (.int .i64 (f : Int)) (by rw [← HFI.out]; rfl); have d2 := HK.out.cell 2 (.int .i64 D.f) rfl
        go_region_held3 (fun w' => w'.cell? ⟨W.heap.size, 0, none⟩ = some (.pointer (some ⟨l.M, 0, none⟩)) ∧ w'.cell? ⟨W.heap.size, 7, none⟩ = some (.int .i64 o.len) ∧ w'.cell? ⟨l.M, 21, none⟩ = some (.slice (some ⟨l.F, 0, none⟩) s.fs.length s.fs.length) ∧ w'.cell? ⟨l.F, f, none⟩ = some (.string sd) ∧ w'.cell? ⟨K, 0, none⟩ = some (.int .i64 (f : Int)) ∧ w'.cell? ⟨K, 2, none⟩ = some (.int .i64 D.f)) (go_keep) (first | (go_at_call 92; refine (HCB.out _).mono ?_; rintro e w3 ⟨rfl, rfl⟩))
        all_goals
          go_wp2_with fail
          go_meet
          exact ⟨rfl, Lib.hid (Below.refl W1.heap.size W1).drew⟩
      case rest =>
      obtain ⟨rfl, HBB⟩ := hcut
      replace HX := Lib.hid (HX.out.below HBB.out)
      replace HN := Lib.hid (HN.out.below HBB.out HN.out.hi)
      replace HK := Lib.hid (HK.out.below HBB.out HK.out.hi)
      clear HBB HCB
      obtain ⟨⟨d0, d1, d2, d3, d4⟩, ⟨f0, f1, f2, f3, f4⟩, fh⟩ := Des.At.five HK.out
      have htI : 0 ≤ (TD.size : Int) ∧ (TD.size : Int) ≤ 1000 := by omega
      obtain ⟨ht0, ht1⟩ := htI
      have hwr : wrap64 (D.f + (TD.size : Int)) = D.f + (TD.size : Int) := IntWalk.wrap64_in _ (by omega)
      have HX2 : Hid (Bx2 W (wc.setCell ⟨K, 2, none⟩ (.int .i64 (D.f + (TD.size : Int)))) W.heap.size (W.heap.size + 1) cs [.int .i64 0, .int .i64 0, .string ⟨#[]⟩, .nilFunc]) := Lib.hid ⟨HX.out.bel.setCell (p := ⟨K, 2, none⟩) (by have := HKN.out; show W.heap.size ≤ K; omega) _, HX.out.t.setOther (x := ⟨K, 2, none⟩) (by have := HKN.out; show W.heap.size ≠ K; omega) _, HX.out.r.setOther (x := ⟨K, 2, none⟩) (by have := HKN.out; show W.heap.size + 1 ≠ K; omega) _, HX.out.lo, HX.out.tr⟩
      have HK2 := Lib.hid (HK.out.set 2 (.int .i64 (D.f + (TD.size : Int))))
      have HN2 : Hid (At (wc.setCell ⟨K, 2, none⟩ (.int .i64 (D.f + (TD.size : Int)))) N [.int .i64 nv]) := Lib.hid (HN.out.setOther (x := ⟨K, 2, none⟩) (by exact HKN.out.2.2) _)
      go_upto_region 8 with (fail)
      generalize wc.setCell ⟨K, 2, none⟩ (.int .i64 (D.f + (TD.size : Int))) = W2 at *
      replace HK2 : Hid (At W2 K [.int .i64 D.fi, .int .i64 D.fl, .int .i64 (D.f + (TD.size : Int)), .int .i64 D.cu, .int .i64 D.rf]) := HK2
      replace HX := HX2
      clear HX2 HK HN d0 d1 d2 d3 d4 f0 f1 f2 f3 f4 fh hwr
      obtain ⟨PR1, PR2⟩ := PR
      obtain ⟨rfl, rfl⟩ : PR1 = _ ∧ PR2 = _ := by have := HE.out; exact ⟨congrArg Prod.fst this, congrArg Prod.snd this⟩
      clear HE
      replace hmf := hmf'.out
      obtain ⟨_, ⟨r0, r1, r2, r3⟩, rh⟩ := At.four HX.out.r
      obtain ⟨rc0, rc1, rc2, rc3⟩ := (At.four HX.out.r).1
      go_wp2_with fail
      generalize hwB : (((W2.setCell ⟨W.heap.size + 1, 0, none⟩ (.int .i64 0)).setCell ⟨W.heap.size + 1, 1, none⟩ (.int .i64 (TD.size : Int))).setCell ⟨W.heap.size + 1, 2, none⟩ (.string TD)).setCell ⟨W.heap.size + 1, 3, none⟩ (.func (.func 93) #[] #[.pointer (some ⟨W.heap.size, 0, none⟩), .pointer (some ⟨N, 0, none⟩), .pointer (some ⟨K, 0, none⟩)]) = w9 at *
      have HP : Bx2 W w9 W.heap.size (W.heap.size + 1) cs [.int .i64 0, .int .i64 (TD.size : Int), .string TD, .func (.func 93) #[] #[.pointer (some ⟨W.heap.size, 0, none⟩), .pointer (some ⟨N, 0, none⟩), .pointer (some ⟨K, 0, none⟩)]] := by rw [← hwB]; exact HX.out.putR [.int .i64 0, .int .i64 (TD.size : Int), .string TD, .func (.func 93) #[] #[.pointer (some ⟨W.heap.size, 0, none⟩), .pointer (some ⟨N, 0, none⟩), .pointer (some ⟨K, 0, none⟩)]] rfl
      skip
      have HAN : Hid (At w9 N [.int .i64 nv]) := Lib.hid (by rw [← hwB]; exact HN2.out.apart (by have := HKN.out; omega) 0 [.int .i64 0, .int .i64 (TD.size : Int), .string TD, .func (.func 93) #[] #[.pointer (some ⟨W.heap.size, 0, none⟩), .pointer (some ⟨N, 0, none⟩), .pointer (some ⟨K, 0, none⟩)]])
      have HAK : Hid (At w9 K [.int .i64 D.fi, .int .i64 D.fl, .int .i64 (D.f + (TD.size : Int)), .int .i64 D.cu, .int .i64 D.rf]) := Lib.hid (by rw [← hwB]; exact HK2.out.apart (by have := HKN.out; omega) 0 [.int .i64 0, .int .i64 (TD.size : Int), .string TD, .func (.func 93) #[] #[.pointer (some ⟨W.heap.size, 0, none⟩), .pointer (some ⟨N, 0, none⟩), .pointer (some ⟨K, 0, none⟩)]])
      clear r0 r1 r2 r3 rc0 rc1 rc2 rc3
      obtain ⟨⟨q0, q1, q2, q3⟩, _, _⟩ := At.four HP.r
      exact bodyPost_ret (v := .agg #[.int .i64 0, .int .i64 (TD.size : Int), .string TD, .func (.func 93) #[] #[.pointer (some ⟨W.heap.size, 0, none⟩), .pointer (some ⟨N, 0, none⟩), .pointer (some ⟨K, 0, none⟩)]]) (by simp [results, Tryz.results67, go_sem, q0, q1, q2, q3]) rfl ⟨_, rfl, HP.bel, Or.inr ⟨93, _, rfl, fun _ _ => rfl, fun W2' hf2 => clo93 B l s p o x nv ⟨D.fi, D.fl, D.f + (TD.size : Int), D.cu, D.rf⟩ W.heap.size N K W2' (hf2.mm HP.bel) hr (by rw [← HCS.out]; exact hf2.at HP.t HP.lo) (hf2.at HAN.out (by first | omega | (have := HKN.out; omega) | (have := HO.out.lo; have := HKh.out; have := HKN.out; omega) | (have := HO.out.lo; have := HR1.out; omega) | (have := HN.out.lo; have := HR1.out; omega) | (have := HKN.out; have := HKh.out; omega) | (have := HOl.out; have := HKh.out; have := HKN.out; omega) | (have := HKN.out; have := HR1.out; omega) | (have := HOl.out; omega) | (have := HN.out.lo; have := HOl.out; have := HR1.out; omega) | (have := HKh.out; have := HOl.out; have := HR1.out; omega))) (hf2.at HAK.out (by first | omega | (have := HKN.out; omega) | (have := HO.out.lo; have := HKh.out; have := HKN.out; omega) | (have := HO.out.lo; have := HR1.out; omega) | (have := HN.out.lo; have := HR1.out; omega) | (have := HKN.out; have := HKh.out; omega) | (have := HOl.out; have := HKh.out; have := HKN.out; omega) | (have := HKN.out; have := HR1.out; omega) | (have := HOl.out; omega) | (have := HN.out.lo; have := HOl.out; have := HR1.out; omega) | (have := HKh.out; have := HOl.out; have := HR1.out; omega)))⟩⟩
  · have hz' : (le == 0) = false := by simpa using hz
    obtain ⟨PR1, PR2⟩ := PR
    obtain ⟨rfl, rfl⟩ : PR1 = _ ∧ PR2 = _ := by have := HE.out.trans (if_pos hz); exact ⟨congrArg Prod.fst this, congrArg Prod.snd this⟩
    clear HE
    clear HCA HLZ
    go_wp2_with fail
    refine (bad_any le _).mono ?_
    rintro e w5 ⟨rfl, hb⟩
    replace HX := Lib.hid (HX.out.below hb)
    clear hb
    obtain ⟨_, ⟨r0, r1, r2, r3⟩, rh⟩ := At.four HX.out.r
    obtain ⟨rc0, rc1, rc2, rc3⟩ := (At.four HX.out.r).1
    go_wp2_with fail
    generalize hwB : (((w5.setCell ⟨W.heap.size + 1, 0, none⟩ (.int .i64 le)).setCell ⟨W.heap.size + 1, 1, none⟩ (.int .i64 0)).setCell ⟨W.heap.size + 1, 2, none⟩ (.string ⟨#[]⟩)).setCell ⟨W.heap.size + 1, 3, none⟩ (.nilFunc) = w9 at *
    have HP : Bx2 W w9 W.heap.size (W.heap.size + 1) cs [.int .i64 le, .int .i64 0, .string ⟨#[]⟩, .nilFunc] := by rw [← hwB]; exact HX.out.putR [.int .i64 le, .int .i64 0, .string ⟨#[]⟩, .nilFunc] rfl
    skip
    clear r0 r1 r2 r3 rc0 rc1 rc2 rc3
    obtain ⟨⟨q0, q1, q2, q3⟩, _, _⟩ := At.four HP.r
    exact bodyPost_ret (v := .agg #[.int .i64 le, .int .i64 0, .string ⟨#[]⟩, .nilFunc]) (by simp [results, Tryz.results67, go_sem, q0, q1, q2, q3]) rfl ⟨_, rfl, HP.bel, Or.inl ⟨rfl, rfl⟩⟩
end Go.Proofs.YtimhaidiclbnhaaGreat.Ver
