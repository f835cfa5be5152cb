/- Layer 46, shared texts of this seat, part 31. -/
import Derived.Test.YtimhaidiclbnhaaGreatM30
import Derived.Test.YtimhaidiclbnhaaGreatM28
/- Layer 46: the plans of write. -/
set_option linter.unusedSimpArgs false
set_option linter.unusedVariables false
set_option maxRecDepth 100000
namespace Go.Proofs.YtimhaidiclbnhaaGreat.Ver
open Go.ChangeShapes Go.WideShapes Go.ChangeAt Go.RowKit
open Des (Dv De Dn DIn DBlk DAns Vi At RowOf ints DSz)
open Ara (Ar ARow)
open Con (StrRow)

def writeR (s : St) (p : Int) (o : Opr) : Res × St :=
  if lkE s p o.fd 2 ≠ 0 then (badR (lkE s p o.fd 2), s) else if (Con.writeV (s.fs.getD (Des.lookV s.d p o.fd).fi.toNat ⟨#[]⟩) (if andV (Des.lookV s.d p o.fd).fl 4 ≠ 0 ∧ ¬ o.dat.size = 0 then ((s.fs.getD (Des.lookV s.d p o.fd).fi.toNat ⟨#[]⟩).size : Int) else (Des.lookV s.d p o.fd).f) o.dat).2 ≠ 0 then (badR (Con.writeV (s.fs.getD (Des.lookV s.d p o.fd).fi.toNat ⟨#[]⟩) (if andV (Des.lookV s.d p o.fd).fl 4 ≠ 0 ∧ ¬ o.dat.size = 0 then ((s.fs.getD (Des.lookV s.d p o.fd).fi.toNat ⟨#[]⟩).size : Int) else (Des.lookV s.d p o.fd).f) o.dat).2, s) else if o.dat.size = 0 then (⟨0, 0, ⟨#[]⟩⟩, s) else (⟨0, (o.dat.size : Int), ⟨#[]⟩⟩, chS { s with d := Des.updD s.d (Des.numV s.d p o.fd) ((if andV (Des.lookV s.d p o.fd).fl 4 ≠ 0 ∧ ¬ o.dat.size = 0 then ((s.fs.getD (Des.lookV s.d p o.fd).fi.toNat ⟨#[]⟩).size : Int) else (Des.lookV s.d p o.fd).f) + (o.dat.size : Int)) (Des.lookV s.d p o.fd).cu } (Des.lookV s.d p o.fd).fi.toNat (Con.writeV (s.fs.getD (Des.lookV s.d p o.fd).fi.toNat ⟨#[]⟩) (if andV (Des.lookV s.d p o.fd).fl 4 ≠ 0 ∧ ¬ o.dat.size = 0 then ((s.fs.getD (Des.lookV s.d p o.fd).fi.toNat ⟨#[]⟩).size : Int) else (Des.lookV s.d p o.fd).f) o.dat).1)
theorem no_bytes {d : ByteArray} (h : d.size = 0) : d = ⟨#[]⟩ := by
  cases d with | mk a => simp [ByteArray.size] at h; rw [h]
theorem some_bytes {d : ByteArray} (h : ¬ d.size = 0) : ¬ d.toList = [] := fun e => h (by
  rw [ByteArray.toList_eq] at e
  have : d.data.toList.length = 0 := by rw [e]; rfl
  rw [Array.length_toList] at this
  exact this)
set_option maxHeartbeats 8000000 in
theorem write_any (B : Nat) (l : Ly) (s : St) (p : Int) (o : Opr) (x : Ev) (W : World) (h : Mm B W l s) (hr : Des.Rt s.d) (hn : s.fs.length ≤ 1000) (hsz : ∀ y, y ∈ s.fs → y.size ≤ 1000) (hfh : s.h.length = s.fs.length) (hl : ∀ i, i < s.h.length → (s.h.getD i ([], 0)).1.length ≤ 10000) (hdat : o.dat.size ≤ 1000) :
    Calls Tryz.prog 68 #[stepV l.M p o x] W (PlanP B W l s (writeR s p o).1 (writeR s p o).2) := by
  have HLK : Hid (∀ W', Below W.heap.size W W' → Calls Tryz.prog 91 #[stepV l.M p o x, .int .i64 2] W' (RetW (.tuple #[.int .i64 (Des.numV s.d p o.fd), .agg #[.int .i64 (Des.lookV s.d p o.fd).fi, .int .i64 (Des.lookV s.d p o.fd).fl, .int .i64 (Des.lookV s.d p o.fd).f, .int .i64 (Des.lookV s.d p o.fd).cu, .int .i64 (Des.lookV s.d p o.fd).rf], .int .i64 (lkE s p o.fd 2)]) W')) := Lib.hid fun W' hb => lookup_any' B l s p o x 2 W' (h.below hb) hr hn
  have HM := Lib.hid h
  have HCA : Hid (∀ (sd : ByteArray) (f : Int) W', sd.size ≤ 1000 → Calls Tryz.prog 95 #[.string sd, .int .i64 f, .string o.dat] W' (RetW (.tuple #[.string (Con.writeV sd f o.dat).1, .int .i64 (Con.writeV sd f o.dat).2]) W')) := Lib.hid fun sd f W' hs => Con.write_any sd f o.dat W' (by unfold maxLen; omega) (by unfold maxLen; omega)
  have HLZ : Hid (lkE s p o.fd 2 = 0 → (0 ≤ (Des.lookV s.d p o.fd).f ∧ (Des.lookV s.d p o.fd).f ≤ 128) ∧ ∃ f : Nat, (Des.lookV s.d p o.fd).fi = (f : Int) ∧ f < s.fs.length) := Lib.hid fun h0 => ⟨by
    have h4 := (lk_zero h0 hr).2.2.1
    unfold Des.rightD Des.movB at h4
    rw [Bool.and_eq_true, Bool.and_eq_true] at h4
    exact of_decide_eq_true h4.2.1, (lk_zero h0 hr).2.2.2⟩
  have HE : Hid (writeR s p o = if lkE s p o.fd 2 ≠ 0 then (badR (lkE s p o.fd 2), s) else if (Con.writeV (s.fs.getD (Des.lookV s.d p o.fd).fi.toNat ⟨#[]⟩) (if andV (Des.lookV s.d p o.fd).fl 4 ≠ 0 ∧ ¬ o.dat.size = 0 then ((s.fs.getD (Des.lookV s.d p o.fd).fi.toNat ⟨#[]⟩).size : Int) else (Des.lookV s.d p o.fd).f) o.dat).2 ≠ 0 then (badR (Con.writeV (s.fs.getD (Des.lookV s.d p o.fd).fi.toNat ⟨#[]⟩) (if andV (Des.lookV s.d p o.fd).fl 4 ≠ 0 ∧ ¬ o.dat.size = 0 then ((s.fs.getD (Des.lookV s.d p o.fd).fi.toNat ⟨#[]⟩).size : Int) else (Des.lookV s.d p o.fd).f) o.dat).2, s) else if o.dat.size = 0 then (⟨0, 0, ⟨#[]⟩⟩, s) else (⟨0, (o.dat.size : Int), ⟨#[]⟩⟩, chS { s with d := Des.updD s.d (Des.numV s.d p o.fd) ((if andV (Des.lookV s.d p o.fd).fl 4 ≠ 0 ∧ ¬ o.dat.size = 0 then ((s.fs.getD (Des.lookV s.d p o.fd).fi.toNat ⟨#[]⟩).size : Int) else (Des.lookV s.d p o.fd).f) + (o.dat.size : Int)) (Des.lookV s.d p o.fd).cu } (Des.lookV s.d p o.fd).fi.toNat (Con.writeV (s.fs.getD (Des.lookV s.d p o.fd).fi.toNat ⟨#[]⟩) (if andV (Des.lookV s.d p o.fd).fl 4 ≠ 0 ∧ ¬ o.dat.size = 0 then ((s.fs.getD (Des.lookV s.d p o.fd).fi.toNat ⟨#[]⟩).size : Int) else (Des.lookV s.d p o.fd).f) o.dat).1)) := Lib.hid rfl
  have HX := Lib.hid (Bx2.start W (stepC l.M p o x) [.int .i64 0, .int .i64 0, .string ⟨#[]⟩, .nilFunc] 122 114)
  have hmf : ∀ (fn : Fn) (first cap : Array Value) (w : World), (Instr.makeFunc fn first cap).run Tryz.prog w = .ok (.func fn first cap) w := fun _ _ _ _ => rfl
  unfold stepV at HLK ⊢
  obtain ⟨cs, hcs⟩ : ∃ cs, cs = stepC l.M p o x := ⟨_, rfl⟩
  have HCS := Lib.hid hcs
  rw [← hcs] at HX HLK ⊢
  clear hcs h
  generalize writeR s p o = PR at *
  generalize lkE s p o.fd 2 = le at *
  generalize Des.numV s.d p o.fd = nv at *
  generalize Des.lookV s.d p o.fd = D at *
  go_enter Tryz.func68, Tryz.ntmps68
  go_upto_region 1 with (fail)
  generalize World.alloc _ (Obj.cells #[.int .i64 0, .int .i64 0, .string ⟨#[]⟩, .nilFunc] 114) = W0 at *
  have hmf' := Lib.hid hmf
  clear hmf
  go_wp2_with (with_reducible refine Des.hold_load 122 rfl ?_)
  refine Des.load_ato 0 HX.out.t.r Tryz.underlying122 rfl (by rw [HCS.out]; exact size122) rfl rfl rfl ?_
  go_wp2_with fail
  refine (HLK.out _ HX.out.bel).mono ?_
  rintro e w1 ⟨rfl, hb⟩
  replace HX := Lib.hid (HX.out.below hb)
  clear hb HLK
  have HNK := Lib.hid (two_new w1 [.int .i64 nv] 3 [.int .i64 D.fi, .int .i64 D.fl, .int .i64 D.f, .int .i64 D.cu, .int .i64 D.rf] 126)
  have HR1 : Hid (W.heap.size + 1 < w1.heap.size) := Lib.hid HX.out.r.hi
  go_upto_region 2 with (fail)
  generalize ((w1.alloc (Obj.cells #[.int .i64 nv] 3)).alloc (Obj.cells #[.int .i64 D.fi, .int .i64 D.fl, .int .i64 D.f, .int .i64 D.cu, .int .i64 D.rf] 126)) = W1 at *
  replace HX := Lib.hid (HX.out.below HNK.out.2.2)
  have HN := Lib.hid HNK.out.1
  have HK := Lib.hid HNK.out.2.1
  have HKN : Hid (W.heap.size + 1 < w1.heap.size + 1 ∧ W.heap.size + 1 < w1.heap.size ∧ w1.heap.size ≠ w1.heap.size + 1) := Lib.hid (by have := HR1.out; omega)
  clear HNK HR1
  generalize w1.heap.size + 1 = K at *
  generalize w1.heap.size = N at *
  by_cases hz : le = 0
  · subst hz
    have HE2 := Lib.hid (HE.out.trans (if_neg (by simp)))
    clear HE
    have HE := HE2
    clear HE2
    obtain ⟨⟨hf0, hf1⟩, f, hf, hfn⟩ := HLZ.out rfl
    rw [hf, Int.toNat_natCast] at HE
    have HFI : Hid (D.fi = (f : Int)) := Lib.hid hf
    have hsd : (s.fs.getD f ⟨#[]⟩).size ≤ 1000 := hsz _ (by rw [List.getD_eq_getElem?_getD, List.getElem?_eq_getElem hfn]; exact List.getElem_mem hfn)
    have HFC := Lib.hid (fs_at s.fs f hfn)
    generalize s.fs.getD f ⟨#[]⟩ = sd at *
    have HCB0 := Lib.hid (fun F W' => HCA.out sd F W' hsd)
    clear HCA HLZ hf
    have hfI : (f : Int) < (s.fs.length : Int) := by omega
    have hnI : (s.fs.length : Int) ≤ 1000 := by omega
    have hdI : (sd.size : Int) ≤ 1000 := by omega
    have hdJ : (o.dat.size : Int) ≤ 1000 := by omega
    go_upto_region 4 with (fail)
    go_cut [26] (fun v wx => v = .bool (decide (andV D.fl 4 ≠ 0 ∧ ¬ o.dat.size = 0)) ∧ W1 = wx)
    case first =>
      have d1 := HK.out.cell 1 (.int .i64 D.fl) rfl
      by_cases ha : andV D.fl 4 = 0
      · have ha1 : bits BinOp.and IntKind.i64 D.fl 4 = 0 := ha
        go_wp2_with fail
        go_meet
        exact ⟨by simp [ha], rfl⟩
      · have ha1 : ¬ bits BinOp.and IntKind.i64 D.fl 4 = 0 := ha
        have ha2 : (bits BinOp.and IntKind.i64 D.fl 4 == 0) = false := by simpa using ha1
        by_cases hd : o.dat.size = 0
        · have t9 := HX.out.t.cell 9 (.string ⟨#[]⟩) (by rw [HCS.out, ← no_bytes hd]; rfl)
          go_wp2_with fail
          go_meet
          exact ⟨by simp [hd], rfl⟩
        · have t9 := HX.out.t.cell 9 (.string o.dat) (by rw [HCS.out]; rfl)
          have hd1 := some_bytes hd
          have hd2 : ¬ o.dat = ⟨#[]⟩ := fun e => hd (by rw [e]; rfl)
          go_wp2_with fail
          go_meet
          exact ⟨by simp [ha, hd]; exact ⟨ha1, hd1⟩, rfl⟩
    case rest =>
    obtain ⟨rfl, rfl⟩ := hcut
    skip
    go_upto_if 26 with (fail)
    go_cut [5] (fun v wx => v = .int .i64 0 ∧ ∃ q : Int, q = (if andV D.fl 4 ≠ 0 ∧ ¬ o.dat.size = 0 then (sd.size : Int) else D.f) ∧ Hid (Bx2 W wx W.heap.size (W.heap.size + 1) cs [.int .i64 0, .int .i64 0, .string ⟨#[]⟩, .nilFunc]) ∧ Hid (At wx N [.int .i64 nv]) ∧ Hid (At wx K [.int .i64 D.fi, .int .i64 D.fl, .int .i64 q, .int .i64 D.cu, .int .i64 D.rf]))
    case first =>
      by_cases hc : andV D.fl 4 ≠ 0 ∧ ¬ o.dat.size = 0
      · have hd : decide (andV D.fl 4 ≠ 0 ∧ ¬ o.dat.size = 0) = true := decide_eq_true hc
        rw [hd]
        have HC9 := Lib.hid hc
        clear hc hd
        replace HX := Lib.hid (HX.out.below (Below.refl _ _).drew)
        replace HN := Lib.hid (Des.At.drew HN.out)
        replace HK := Lib.hid (Des.At.drew HK.out)
        obtain ⟨⟨d0, d1, d2, d3, d4⟩, ⟨f0, f1, f2, f3, f4⟩, fh⟩ := Des.At.five HK.out
        replace d0 : W1.drew.cell? ⟨K, 0, none⟩ = some (.int .i64 (f : Int)) := by rw [← HFI.out]; exact d0
        have t0 := HX.out.t.cell 0 (.pointer (some ⟨l.M, 0, none⟩)) (by rw [HCS.out]; rfl); have mF := (HM.out.below HX.out.bel).cF
        have a := (HM.out.below HX.out.bel).f.cell f (.string sd) HFC.out
        go_wp2_with fail
        go_region
        go_wp2_with fail
        go_meet
        refine ⟨rfl, _, (if_pos HC9.out).symm, ?_, ?_, ?_⟩
        · exact Lib.hid ⟨HX.out.bel.setCell (p := ⟨K, 2, none⟩) (by have := HKN.out; show W.heap.size ≤ K; omega) _, HX.out.t.setOther (x := ⟨K, 2, none⟩) (by have := HKN.out; show W.heap.size ≠ K; omega) _, HX.out.r.setOther (x := ⟨K, 2, none⟩) (by have := HKN.out; show W.heap.size + 1 ≠ K; omega) _, HX.out.lo, HX.out.tr⟩
        · exact Lib.hid (HN.out.setOther (x := ⟨K, 2, none⟩) (by exact HKN.out.2.2) _)
        · exact Lib.hid (HK.out.set 2 (.int .i64 (sd.size : Int)))
      · have hd : decide (andV D.fl 4 ≠ 0 ∧ ¬ o.dat.size = 0) = false := decide_eq_false hc
        rw [hd]
        have HC9 := Lib.hid hc
        clear hc hd
        go_wp2_with fail
        go_meet
        exact ⟨rfl, _, (if_neg HC9.out).symm, HX, HN, HK⟩
    case rest =>
    clear HX HN HK
    obtain ⟨rfl, q, hq, HX, HN, HK⟩ := hcut
    have hq0 : 0 ≤ q ∧ q ≤ 1000 := by rw [hq]; split <;> omega
    rw [← hq] at HE
    clear hq
    obtain ⟨hq0, hq1⟩ := hq0
    have HCB := Lib.hid (HCB0.out q)
    clear HCB0 hf0 hf1
    obtain ⟨TD, TE, hte⟩ : ∃ TD TE, Con.writeV sd q o.dat = (TD, TE) := ⟨_, _, rfl⟩
    rw [hte] at HE HCB
    simp only at HE HCB
    clear hte
    go_upto_region 6 with (fail)
    skip
    obtain ⟨W2, hW2⟩ : ∃ W2, W2 = wc := ⟨_, rfl⟩
    subst hW2
    have HM1 := Lib.hid (HM.out.below HX.out.bel)
    have HKh : Hid (K < W2.heap.size) := Lib.hid HK.out.hi
    have HNh : Hid (N < W2.heap.size) := Lib.hid HN.out.hi
    go_cut [5, 6] (fun s5 s6 wx => ∃ O, s5 = .int .i64 TE ∧ s6 = .pointer (some ⟨O, 0, none⟩) ∧ Hid (Nb W2 wx O [.string TD]))
    case first =>
      have HX0 := HX
      replace HX := Lib.hid (HX.out.below (Below.refl _ _).drew)
      have hT : W.heap.size < W2.heap.size := HX0.out.t.hi
      have hM : l.M < W2.heap.size := (HM.out.below HX0.out.bel).m.hi
      have e1 : ¬ W2.heap.size = W.heap.size := by omega
      have e2 : ¬ W.heap.size = W2.heap.size := by omega
      have e3 : ¬ W2.heap.size = l.M := by omega
      have e4 : ¬ l.M = W2.heap.size := by omega
      have hm1 : l.F < W2.heap.size := HM1.out.hi _ (by simp [vs])
      have f1a : ¬ W2.heap.size = l.F := by omega
      have f1b : ¬ l.F = W2.heap.size := by omega
      have hm2 : K < W2.heap.size := HKh.out
      have f2a : ¬ W2.heap.size = K := by omega
      have f2b : ¬ K = W2.heap.size := by omega
      have yt0 := HX0.out.t.cell 0 (.pointer (some ⟨l.M, 0, none⟩)) (by rw [HCS.out]; rfl); have yt9 := HX0.out.t.cell 9 (.string o.dat) (by rw [HCS.out]; rfl); have ymF := (HM.out.below HX0.out.bel).cF; have ya := (HM.out.below HX0.out.bel).f.cell f (.string sd) HFC.out; have yd := (HK.out).cell 0 (.int .i64 (f : Int)) (by rw [← HFI.out]; rfl); have yb := (HK.out).cell 2 (.int .i64 q) rfl
      have t0 := HX.out.t.cell 0 (.pointer (some ⟨l.M, 0, none⟩)) (by rw [HCS.out]; rfl); have t9 := HX.out.t.cell 9 (.string o.dat) (by rw [HCS.out]; rfl); have mF := (HM.out.below HX.out.bel).cF; have a := (HM.out.below HX.out.bel).f.cell f (.string sd) HFC.out; have d := (HK.out.below ((Below.refl W2.heap.size W2).drew) HK.out.hi).cell 0 (.int .i64 (f : Int)) (by rw [← HFI.out]; rfl); have b := (HK.out.below ((Below.refl W2.heap.size W2).drew) HK.out.hi).cell 2 (.int .i64 q) rfl
      go_region_held3 (fun w' => w'.cell? ⟨W.heap.size, 0, none⟩ = some (.pointer (some ⟨l.M, 0, none⟩)) ∧ w'.cell? ⟨W.heap.size, 9, none⟩ = some (.string o.dat) ∧ w'.cell? ⟨l.M, 21, none⟩ = some (.slice (some ⟨l.F, 0, none⟩) s.fs.length s.fs.length) ∧ w'.cell? ⟨l.F, f, none⟩ = some (.string sd) ∧ w'.cell? ⟨K, 0, none⟩ = some (.int .i64 (f : Int)) ∧ w'.cell? ⟨K, 2, none⟩ = some (.int .i64 q)) (go_keep) (first | (go_at_call 95; refine (HCB.out _).mono ?_; rintro e w2 ⟨rfl, hb⟩; (first | (have HA := Lib.hid hb; have HKB := Lib.hid (HK.out.below ((Below.refl W2.heap.size W2).drew.trans hb) HK.out.hi); replace HX := Lib.hid (HX.out.below hb)) | (have HB := Lib.hid hb; have HKB := Lib.hid (HK.out.below (((Below.refl W2.heap.size W2).alloc (Nat.le_refl _) _).drew.trans (hb.mono (by show W2.heap.size ≤ (W2.alloc _).heap.size; rw [Des.alloc_size]; omega))) HK.out.hi); obtain ⟨_, f0, fh⟩ := At.one (((At.new W2 [.string ⟨#[]⟩] 9).drew).below hb (by show W2.heap.size < (W2.alloc _).heap.size; rw [Des.alloc_size]; omega)); replace HX := Lib.hid ((HX.out.below ((Below.refl _ _).alloc (Nat.le_refl _) _)).below hb))); clear hb t0 t9 mF a d b; have t0 := HX.out.t.cell 0 (.pointer (some ⟨l.M, 0, none⟩)) (by rw [HCS.out]; rfl); have t9 := HX.out.t.cell 9 (.string o.dat) (by rw [HCS.out]; rfl); have mF := (HM.out.below HX.out.bel).cF; have a := (HM.out.below HX.out.bel).f.cell f (.string sd) HFC.out; have d := (HKB.out).cell 0 (.int .i64 (f : Int)) (by rw [← HFI.out]; rfl); have b := (HKB.out).cell 2 (.int .i64 q) rfl))
      all_goals
        go_wp2_with fail
        go_meet
        first | exact ⟨_, rfl, rfl, Lib.hid (Nb.after ((Below.refl W2.heap.size W2).drew.trans HA.out) [.string TD] 9)⟩ | exact ⟨_, rfl, rfl, Lib.hid (Nb.before (T := 9) (zs := [.string ⟨#[]⟩]) ((Below.refl (W2.alloc _).heap.size (W2.alloc _)).drew.trans HB.out) [.string TD] rfl)⟩
    case rest =>
    obtain ⟨O, rfl, rfl, HO⟩ := hcut
    replace HX := Lib.hid (HX.out.below HO.out.bel)
    replace HN := Lib.hid (HN.out.below HO.out.bel HN.out.hi)
    replace HK := Lib.hid (HK.out.below HO.out.bel HK.out.hi)
    clear HCB
    by_cases hu : TE = 0
    · subst hu
      have HE2 := Lib.hid (HE.out.trans (if_neg (by simp)))
      clear HE
      have HE := HE2
      clear HE2
      obtain ⟨⟨d0, d1, d2, d3, d4⟩, ⟨f0, f1, f2, f3, f4⟩, fh⟩ := Des.At.five HK.out
      have t9 := HX.out.t.cell 9 (.string o.dat) (by rw [HCS.out]; rfl)
      have hwr : wrap64 (q + (o.dat.size : Int)) = q + (o.dat.size : Int) := IntWalk.wrap64_in _ (by omega)
      have HX2 : Hid (Bx2 W (wc.setCell ⟨K, 2, none⟩ (.int .i64 (q + (o.dat.size : Int)))) W.heap.size (W.heap.size + 1) cs [.int .i64 0, .int .i64 0, .string ⟨#[]⟩, .nilFunc]) := Lib.hid ⟨HX.out.bel.setCell (p := ⟨K, 2, none⟩) (by have := HKN.out; show W.heap.size ≤ K; omega) _, HX.out.t.setOther (x := ⟨K, 2, none⟩) (by have := HKN.out; show W.heap.size ≠ K; omega) _, HX.out.r.setOther (x := ⟨K, 2, none⟩) (by have := HKN.out; show W.heap.size + 1 ≠ K; omega) _, HX.out.lo, HX.out.tr⟩
      have HK2 := Lib.hid (HK.out.set 2 (.int .i64 (q + (o.dat.size : Int))))
      have HN2 : Hid (At (wc.setCell ⟨K, 2, none⟩ (.int .i64 (q + (o.dat.size : Int)))) N [.int .i64 nv]) := Lib.hid (HN.out.setOther (x := ⟨K, 2, none⟩) (by exact HKN.out.2.2) _)
      have HO2 : Hid (At (wc.setCell ⟨K, 2, none⟩ (.int .i64 (q + (o.dat.size : Int)))) O [.string TD]) := Lib.hid (HO.out.at'.setOther (x := ⟨K, 2, none⟩) (by have := HO.out.lo; have := HKh.out; show O ≠ K; omega) _)
      go_upto_region 10 with (fail)
      generalize wc.setCell ⟨K, 2, none⟩ (.int .i64 (q + (o.dat.size : Int))) = W3 at *
      replace HK2 : Hid (At W3 K [.int .i64 D.fi, .int .i64 D.fl, .int .i64 (q + (o.dat.size : Int)), .int .i64 D.cu, .int .i64 D.rf]) := HK2
      have HOl : Hid (W2.heap.size ≤ O) := Lib.hid HO.out.lo
      replace HX := HX2
      clear HX2 HK HN HO d0 d1 d2 d3 d4 f0 f1 f2 f3 f4 fh hwr t9
      by_cases hd : o.dat.size = 0
      · have t9 := HX.out.t.cell 9 (.string ⟨#[]⟩) (by rw [HCS.out, ← no_bytes hd]; rfl)
        obtain ⟨PR1, PR2⟩ := PR
        obtain ⟨rfl, rfl⟩ : PR1 = _ ∧ PR2 = _ := by have := HE.out.trans (if_pos hd); exact ⟨congrArg Prod.fst this, congrArg Prod.snd this⟩
        clear HE
        clear hd
        obtain ⟨_, ⟨r0, r1, r2, r3⟩, rh⟩ := At.four HX.out.r
        obtain ⟨rc0, rc1, rc2, rc3⟩ := (At.four HX.out.r).1
        go_wp2_with fail
        change bodyPost _ _ _ _ _ ((((W3.setCell ⟨W.heap.size + 1, 0, none⟩ (.int .i64 0)).setCell ⟨W.heap.size + 1, 1, none⟩ (.int .i64 0)).setCell ⟨W.heap.size + 1, 2, none⟩ (.string ⟨#[]⟩)).setCell ⟨W.heap.size + 1, 3, none⟩ (.nilFunc))
        generalize hwB : (((W3.setCell ⟨W.heap.size + 1, 0, none⟩ (.int .i64 0)).setCell ⟨W.heap.size + 1, 1, none⟩ (.int .i64 0)).setCell ⟨W.heap.size + 1, 2, none⟩ (.string ⟨#[]⟩)).setCell ⟨W.heap.size + 1, 3, none⟩ (.nilFunc) = w9 at *
        have HP : Bx2 W w9 W.heap.size (W.heap.size + 1) cs [.int .i64 0, .int .i64 0, .string ⟨#[]⟩, .nilFunc] := by rw [← hwB]; exact HX.out.putR [.int .i64 0, .int .i64 0, .string ⟨#[]⟩, .nilFunc] rfl
        skip
        clear r0 r1 r2 r3 rc0 rc1 rc2 rc3
        obtain ⟨⟨q0, q1, q2, q3⟩, _, _⟩ := At.four HP.r
        exact bodyPost_ret (v := .agg #[.int .i64 0, .int .i64 0, .string ⟨#[]⟩, .nilFunc]) (by simp [results, Tryz.results68, go_sem, q0, q1, q2, q3]) rfl ⟨_, rfl, HP.bel, Or.inl ⟨rfl, rfl⟩⟩
      · have t9 := HX.out.t.cell 9 (.string o.dat) (by rw [HCS.out]; rfl)
        have hd1 := some_bytes hd
        have hd2 : ¬ o.dat = ⟨#[]⟩ := fun e => hd (by rw [e]; rfl)
        obtain ⟨PR1, PR2⟩ := PR
        obtain ⟨rfl, rfl⟩ : PR1 = _ ∧ PR2 = _ := by have := HE.out.trans (if_neg hd); exact ⟨congrArg Prod.fst this, congrArg Prod.snd this⟩
        clear HE
        clear hd
        replace hmf := hmf'.out
        have hd3 : o.dat.toList.isEmpty = false := by cases h9 : o.dat.toList with | nil => exact absurd h9 hd1 | cons a b => rfl
        obtain ⟨_, ⟨r0, r1, r2, r3⟩, rh⟩ := At.four HX.out.r
        obtain ⟨rc0, rc1, rc2, rc3⟩ := (At.four HX.out.r).1
        go_wp2_with fail
        generalize hwB : (((W3.setCell ⟨W.heap.size + 1, 0, none⟩ (.int .i64 0)).setCell ⟨W.heap.size + 1, 1, none⟩ (.int .i64 (o.dat.size : Int))).setCell ⟨W.heap.size + 1, 2, none⟩ (.string ⟨#[]⟩)).setCell ⟨W.heap.size + 1, 3, none⟩ (.func (.func 96) #[] #[.pointer (some ⟨W.heap.size, 0, none⟩), .pointer (some ⟨N, 0, none⟩), .pointer (some ⟨K, 0, none⟩), .pointer (some ⟨O, 0, none⟩)]) = w9 at *
        have HP : Bx2 W w9 W.heap.size (W.heap.size + 1) cs [.int .i64 0, .int .i64 (o.dat.size : Int), .string ⟨#[]⟩, .func (.func 96) #[] #[.pointer (some ⟨W.heap.size, 0, none⟩), .pointer (some ⟨N, 0, none⟩), .pointer (some ⟨K, 0, none⟩), .pointer (some ⟨O, 0, none⟩)]] := by rw [← hwB]; exact HX.out.putR [.int .i64 0, .int .i64 (o.dat.size : Int), .string ⟨#[]⟩, .func (.func 96) #[] #[.pointer (some ⟨W.heap.size, 0, none⟩), .pointer (some ⟨N, 0, none⟩), .pointer (some ⟨K, 0, none⟩), .pointer (some ⟨O, 0, none⟩)]] rfl
        skip
        have HAN : Hid (At w9 N [.int .i64 nv]) := Lib.hid (by rw [← hwB]; exact HN2.out.apart (by have := HKN.out; omega) 0 [.int .i64 0, .int .i64 (o.dat.size : Int), .string ⟨#[]⟩, .func (.func 96) #[] #[.pointer (some ⟨W.heap.size, 0, none⟩), .pointer (some ⟨N, 0, none⟩), .pointer (some ⟨K, 0, none⟩), .pointer (some ⟨O, 0, none⟩)]])
        have HAK : Hid (At w9 K [.int .i64 D.fi, .int .i64 D.fl, .int .i64 (q + (o.dat.size : Int)), .int .i64 D.cu, .int .i64 D.rf]) := Lib.hid (by rw [← hwB]; exact HK2.out.apart (by have := HKN.out; omega) 0 [.int .i64 0, .int .i64 (o.dat.size : Int), .string ⟨#[]⟩, .func (.func 96) #[] #[.pointer (some ⟨W.heap.size, 0, none⟩), .pointer (some ⟨N, 0, none⟩), .pointer (some ⟨K, 0, none⟩), .pointer (some ⟨O, 0, none⟩)]])
        have HAO : Hid (At w9 O [.string TD]) := Lib.hid (by rw [← hwB]; exact HO2.out.apart (by have := HOl.out; have := HKh.out; have := HKN.out; omega) 0 [.int .i64 0, .int .i64 (o.dat.size : Int), .string ⟨#[]⟩, .func (.func 96) #[] #[.pointer (some ⟨W.heap.size, 0, none⟩), .pointer (some ⟨N, 0, none⟩), .pointer (some ⟨K, 0, none⟩), .pointer (some ⟨O, 0, none⟩)]])
        clear r0 r1 r2 r3 rc0 rc1 rc2 rc3
        obtain ⟨⟨q0, q1, q2, q3⟩, _, _⟩ := At.four HP.r
        exact bodyPost_ret (v := .agg #[.int .i64 0, .int .i64 (o.dat.size : Int), .string ⟨#[]⟩, .func (.func 96) #[] #[.pointer (some ⟨W.heap.size, 0, none⟩), .pointer (some ⟨N, 0, none⟩), .pointer (some ⟨K, 0, none⟩), .pointer (some ⟨O, 0, none⟩)]]) (by simp [results, Tryz.results68, go_sem, q0, q1, q2, q3]) rfl ⟨_, rfl, HP.bel, Or.inr ⟨96, _, rfl, fun _ _ => rfl, fun W2' hf2 => clo96 B l s p o x nv ⟨D.fi, D.fl, q + (o.dat.size : Int), D.cu, D.rf⟩ f TD W.heap.size N K O W2' (hf2.mm HP.bel) hr hfn (by omega) hn (hl f (by omega)) HFI.out (by rw [← HCS.out]; exact hf2.at HP.t HP.lo) (hf2.at HAN.out (by first | omega | (have := HKN.out; omega) | (have := HO.out.lo; have := HKh.out; have := HKN.out; omega) | (have := HO.out.lo; have := HR1.out; omega) | (have := HN.out.lo; have := HR1.out; omega) | (have := HKN.out; have := HKh.out; omega) | (have := HOl.out; have := HKh.out; have := HKN.out; omega) | (have := HKN.out; have := HR1.out; omega) | (have := HOl.out; omega) | (have := HN.out.lo; have := HOl.out; have := HR1.out; omega) | (have := HKh.out; have := HOl.out; have := HR1.out; omega))) (hf2.at HAK.out (by first | omega | (have := HKN.out; omega) | (have := HO.out.lo; have := HKh.out; have := HKN.out; omega) | (have := HO.out.lo; have := HR1.out; omega) | (have := HN.out.lo; have := HR1.out; omega) | (have := HKN.out; have := HKh.out; omega) | (have := HOl.out; have := HKh.out; have := HKN.out; omega) | (have := HKN.out; have := HR1.out; omega) | (have := HOl.out; omega) | (have := HN.out.lo; have := HOl.out; have := HR1.out; omega) | (have := HKh.out; have := HOl.out; have := HR1.out; omega))) (hf2.at HAO.out (by first | omega | (have := HKN.out; omega) | (have := HO.out.lo; have := HKh.out; have := HKN.out; omega) | (have := HO.out.lo; have := HR1.out; omega) | (have := HN.out.lo; have := HR1.out; omega) | (have := HKN.out; have := HKh.out; omega) | (have := HOl.out; have := HKh.out; have := HKN.out; omega) | (have := HKN.out; have := HR1.out; omega) | (have := HOl.out; omega) | (have := HN.out.lo; have := HOl.out; have := HR1.out; omega) | (have := HKh.out; have := HOl.out; have := HR1.out; omega))) (fun hm => by have := HM.out.hi _ hm; omega) (fun hm => by have := HM.out.hi _ hm; have := HKN.out; omega) (fun hm => by have := HM.out.hi _ hm; have := HOl.out; have := HKh.out; have := HKN.out; omega)⟩⟩
    · have hu' : (TE == 0) = false := by simpa using hu
      obtain ⟨PR1, PR2⟩ := PR
      obtain ⟨rfl, rfl⟩ : PR1 = _ ∧ PR2 = _ := by have := HE.out.trans (if_pos hu); exact ⟨congrArg Prod.fst this, congrArg Prod.snd this⟩
      clear HE
      go_wp2_with fail
      refine (bad_any TE _).mono ?_
      rintro e w5 ⟨rfl, hb⟩
      replace HX := Lib.hid (HX.out.below hb)
      clear hb
      obtain ⟨_, ⟨r0, r1, r2, r3⟩, rh⟩ := At.four HX.out.r
      obtain ⟨rc0, rc1, rc2, rc3⟩ := (At.four HX.out.r).1
      go_wp2_with fail
      generalize hwB : (((w5.setCell ⟨W.heap.size + 1, 0, none⟩ (.int .i64 TE)).setCell ⟨W.heap.size + 1, 1, none⟩ (.int .i64 0)).setCell ⟨W.heap.size + 1, 2, none⟩ (.string ⟨#[]⟩)).setCell ⟨W.heap.size + 1, 3, none⟩ (.nilFunc) = w9 at *
      have HP : Bx2 W w9 W.heap.size (W.heap.size + 1) cs [.int .i64 TE, .int .i64 0, .string ⟨#[]⟩, .nilFunc] := by rw [← hwB]; exact HX.out.putR [.int .i64 TE, .int .i64 0, .string ⟨#[]⟩, .nilFunc] rfl
      skip
      clear r0 r1 r2 r3 rc0 rc1 rc2 rc3
      obtain ⟨⟨q0, q1, q2, q3⟩, _, _⟩ := At.four HP.r
      exact bodyPost_ret (v := .agg #[.int .i64 TE, .int .i64 0, .string ⟨#[]⟩, .nilFunc]) (by simp [results, Tryz.results68, go_sem, q0, q1, q2, q3]) rfl ⟨_, rfl, HP.bel, Or.inl ⟨rfl, rfl⟩⟩
  · have hz' : (le == 0) = false := by simpa using hz
    obtain ⟨PR1, PR2⟩ := PR
    obtain ⟨rfl, rfl⟩ : PR1 = _ ∧ PR2 = _ := by have := HE.out.trans (if_pos hz); exact ⟨congrArg Prod.fst this, congrArg Prod.snd this⟩
    clear HE
    clear HCA HLZ
    go_wp2_with fail
    refine (bad_any le _).mono ?_
    rintro e w5 ⟨rfl, hb⟩
    replace HX := Lib.hid (HX.out.below hb)
    clear hb
    obtain ⟨_, ⟨r0, r1, r2, r3⟩, rh⟩ := At.four HX.out.r
    obtain ⟨rc0, rc1, rc2, rc3⟩ := (At.four HX.out.r).1
    go_wp2_with fail
    generalize hwB : (((w5.setCell ⟨W.heap.size + 1, 0, none⟩ (.int .i64 le)).setCell ⟨W.heap.size + 1, 1, none⟩ (.int .i64 0)).setCell ⟨W.heap.size + 1, 2, none⟩ (.string ⟨#[]⟩)).setCell ⟨W.heap.size + 1, 3, none⟩ (.nilFunc) = w9 at *
    have HP : Bx2 W w9 W.heap.size (W.heap.size + 1) cs [.int .i64 le, .int .i64 0, .string ⟨#[]⟩, .nilFunc] := by rw [← hwB]; exact HX.out.putR [.int .i64 le, .int .i64 0, .string ⟨#[]⟩, .nilFunc] rfl
    skip
    clear r0 r1 r2 r3 rc0 rc1 rc2 rc3
    obtain ⟨⟨q0, q1, q2, q3⟩, _, _⟩ := At.four HP.r
    exact bodyPost_ret (v := .agg #[.int .i64 le, .int .i64 0, .string ⟨#[]⟩, .nilFunc]) (by simp [results, Tryz.results68, go_sem, q0, q1, q2, q3]) rfl ⟨_, rfl, HP.bel, Or.inl ⟨rfl, rfl⟩⟩
end Go.Proofs.YtimhaidiclbnhaaGreat.Ver
