/- Layer 46, shared texts of this seat, part 35. -/
import Derived.Test.YtimhaidiclbnhaaGreatM33
import Derived.Test.YtimhaidiclbnhaaGreatM34
import Derived.Test.YtimhaidiclbnhaaGreatM17
import Derived.Test.YtimhaidiclbnhaaGreatM13
/- Layer 46: the plans of map. -/
set_option linter.unusedSimpArgs false
set_option linter.unusedVariables false
set_option maxRecDepth 100000
namespace Go.Proofs.YtimhaidiclbnhaaGreat.Ver
open Go.ChangeShapes Go.WideShapes Go.ChangeAt Go.RowKit
open Des (Dv De Dn DIn DBlk DAns Vi At RowOf ints DSz)
open Ara (Ar ARow)
open Con (StrRow)

def mappedR (s : St) (p : Nat) (o : Opr) : Res × St :=
  if lkE s p o.fd 1 ≠ 0 then (badR (lkE s p o.fd 1), s) else if o.wr = true ∧ andV (Des.lookV s.d p o.fd).fl 2 = 0 then (badR 13, s) else if (Ara.mapV [] (⟨0, o.len, (Des.lookV s.d p o.fd).fi, o.pg, o.wr⟩ : Ar)).2 ≠ 0 then (badR (Ara.mapV [] (⟨0, o.len, (Des.lookV s.d p o.fd).fi, o.pg, o.wr⟩ : Ar)).2, s) else if (Ara.roomV (s.ar.getD p []) o.len).2 = false then (badR 3, s) else if (Ara.mapV (s.ar.getD p []) (⟨(Ara.roomV (s.ar.getD p []) o.len).1, o.len, (Des.lookV s.d p o.fd).fi, o.pg, o.wr⟩ : Ar)).2 ≠ 0 then (badR (Ara.mapV (s.ar.getD p []) (⟨(Ara.roomV (s.ar.getD p []) o.len).1, o.len, (Des.lookV s.d p o.fd).fi, o.pg, o.wr⟩ : Ar)).2, s) else (⟨0, (Ara.roomV (s.ar.getD p []) o.len).1, ⟨#[]⟩⟩, { s with ar := s.ar.set p (Ara.mapV (s.ar.getD p []) (⟨(Ara.roomV (s.ar.getD p []) o.len).1, o.len, (Des.lookV s.d p o.fd).fi, o.pg, o.wr⟩ : Ar)).1 })
set_option maxHeartbeats 8000000 in
theorem mapped_any (B : Nat) (l : Ly) (s : St) (p : Nat) (o : Opr) (x : Ev) (W : World) (h : Mm B W l s) (hr : Des.Rt s.d) (hn : s.fs.length ≤ 1000) (hp : p < s.ar.length) (hps : p < s.scr.length) (hn2 : s.scr.length ≤ 1000) (hal : (s.ar.getD p []).length ≤ 100) :
    Calls Tryz.prog 73 #[stepV l.M p o x] W (PlanP B W l s (mappedR s p o).1 (mappedR s p o).2) := by
  have HLK : Hid (∀ W', Below W.heap.size W W' → Calls Tryz.prog 91 #[stepV l.M p o x, .int .i64 1] W' (RetW (.tuple #[.int .i64 (Des.numV s.d p o.fd), .agg #[.int .i64 (Des.lookV s.d p o.fd).fi, .int .i64 (Des.lookV s.d p o.fd).fl, .int .i64 (Des.lookV s.d p o.fd).f, .int .i64 (Des.lookV s.d p o.fd).cu, .int .i64 (Des.lookV s.d p o.fd).rf], .int .i64 (lkE s p o.fd 1)]) W')) := Lib.hid fun W' hb => lookup_any' B l s p o x 1 W' (h.below hb) hr hn
  have HM := Lib.hid h
  obtain ⟨a0, c0, hsl⟩ : ∃ a c, l.ar.getD p Sl.nil = ⟨a, c⟩ := ⟨_, _, rfl⟩
  have HM1A : Hid (∀ (A : Ar) W', Calls Tryz.prog 106 #[.slice none 0 0, .agg #[.int .i64 A.st, .int .i64 A.cn, .int .i64 A.fi, .int .i64 A.pg, .bool A.wr]] W' (fun e w' => ∃ b c, e = .returned (.tuple #[.slice b (Ara.mapV [] A).1.length c, .int .i64 (Ara.mapV [] A).2]) ∧ Below W'.heap.size W' w')) := Lib.hid fun A W' => (Ara.map_any 0 none [] 0 A W' (Or.inl ⟨rfl, rfl, rfl⟩) (by simp) (Ara.insOK_any A (by simp))).mono fun e w' ⟨b, c, h1, h2, h3⟩ => ⟨b, c, h1, h3⟩
  have HRO : Hid (∀ W', Below W.heap.size W W' → Calls Tryz.prog 107 #[.slice a0 (s.ar.getD p []).length c0, .int .i64 o.len] W' (RetW (.tuple #[.int .i64 (Ara.roomV (s.ar.getD p []) o.len).1, .bool (Ara.roomV (s.ar.getD p []) o.len).2]) W')) := Lib.hid fun W' hb => by
    have h1 := (h.below hb).im.ra p hp
    rw [hsl] at h1
    exact Ara.room_any 0 a0 _ c0 o.len W' h1.1 hal
  have HM2A : Hid (∀ (A : Ar) W', Below W.heap.size W W' → Calls Tryz.prog 106 #[.slice a0 (s.ar.getD p []).length c0, .agg #[.int .i64 A.st, .int .i64 A.cn, .int .i64 A.fi, .int .i64 A.pg, .bool A.wr]] W' (fun e w' => ∃ b c, e = .returned (.tuple #[.slice b (Ara.mapV (s.ar.getD p []) A).1.length c, .int .i64 (Ara.mapV (s.ar.getD p []) A).2]) ∧ ARow W'.heap.size b c (Ara.mapV (s.ar.getD p []) A).1 w' ∧ Below W'.heap.size W' w')) := Lib.hid fun A W' hb => by
    have h1 := (h.below hb).im.ra p hp
    rw [hsl] at h1
    exact Ara.map_any 0 a0 _ c0 A W' h1.1 hal (Ara.insOK_any A hal)
  have HR : Hid (∀ W', Mm B W' l s → W'.cell? ⟨l.R, p, none⟩ = some (.slice a0 (s.ar.getD p []).length c0)) := Lib.hid fun W' hm => by
    have h1 := hm.r.cell p _ (slC_at l.ar s.ar p hp)
    rw [hsl] at h1
    exact h1
  have HE : Hid (mappedR s p o = if lkE s p o.fd 1 ≠ 0 then (badR (lkE s p o.fd 1), s) else if o.wr = true ∧ andV (Des.lookV s.d p o.fd).fl 2 = 0 then (badR 13, s) else if (Ara.mapV [] (⟨0, o.len, (Des.lookV s.d p o.fd).fi, o.pg, o.wr⟩ : Ar)).2 ≠ 0 then (badR (Ara.mapV [] (⟨0, o.len, (Des.lookV s.d p o.fd).fi, o.pg, o.wr⟩ : Ar)).2, s) else if (Ara.roomV (s.ar.getD p []) o.len).2 = false then (badR 3, s) else if (Ara.mapV (s.ar.getD p []) (⟨(Ara.roomV (s.ar.getD p []) o.len).1, o.len, (Des.lookV s.d p o.fd).fi, o.pg, o.wr⟩ : Ar)).2 ≠ 0 then (badR (Ara.mapV (s.ar.getD p []) (⟨(Ara.roomV (s.ar.getD p []) o.len).1, o.len, (Des.lookV s.d p o.fd).fi, o.pg, o.wr⟩ : Ar)).2, s) else (⟨0, (Ara.roomV (s.ar.getD p []) o.len).1, ⟨#[]⟩⟩, { s with ar := s.ar.set p (Ara.mapV (s.ar.getD p []) (⟨(Ara.roomV (s.ar.getD p []) o.len).1, o.len, (Des.lookV s.d p o.fd).fi, o.pg, o.wr⟩ : Ar)).1 })) := Lib.hid rfl
  have HX := Lib.hid (Bx2.start W (stepC l.M p o x) [.int .i64 0, .int .i64 0, .string ⟨#[]⟩, .nilFunc] 122 114)
  have hmf : ∀ (fn : Fn) (first cap : Array Value) (w : World), (Instr.makeFunc fn first cap).run Tryz.prog w = .ok (.func fn first cap) w := fun _ _ _ _ => rfl
  unfold stepV at HLK ⊢
  obtain ⟨cs, hcs⟩ : ∃ cs, cs = stepC l.M p o x := ⟨_, rfl⟩
  have HCS := Lib.hid hcs
  rw [← hcs] at HX HLK ⊢
  clear hcs h
  generalize mappedR s p o = PR at *
  generalize lkE s p o.fd 1 = le at *
  generalize Des.numV s.d p o.fd = nv at *
  generalize Des.lookV s.d p o.fd = D at *
  go_enter Tryz.func73, Tryz.ntmps73
  go_upto_region 1 with (fail)
  generalize World.alloc _ (Obj.cells #[.int .i64 0, .int .i64 0, .string ⟨#[]⟩, .nilFunc] 114) = W0 at *
  have hmf' := Lib.hid hmf
  clear hmf
  go_wp2_with (with_reducible refine Des.hold_load 122 rfl ?_)
  refine Des.load_ato 0 HX.out.t.r Tryz.underlying122 rfl (by rw [HCS.out]; exact size122) rfl rfl rfl ?_
  go_wp2_with fail
  refine (HLK.out _ HX.out.bel).mono ?_
  rintro e w1 ⟨rfl, hb⟩
  replace HX := Lib.hid (HX.out.below hb)
  clear hb HLK
  have hpI : (p : Int) < (s.scr.length : Int) := by omega
  have hnI : (s.scr.length : Int) ≤ 1000 := by omega
  have HR1 : Hid (W.heap.size + 1 < w1.heap.size) := Lib.hid HX.out.r.hi
  have HK := Lib.hid (At.new w1 [.int .i64 D.fi, .int .i64 D.fl, .int .i64 D.f, .int .i64 D.cu, .int .i64 D.rf] 126)
  have HBK : Hid (Below w1.heap.size w1 (w1.alloc (.cells ([.int .i64 D.fi, .int .i64 D.fl, .int .i64 D.f, .int .i64 D.cu, .int .i64 D.rf] : List Value).toArray 126))) := Lib.hid ((Below.refl _ _).alloc (Nat.le_refl _) _)
  go_upto_region 2 with (fail)
  replace HX := Lib.hid (HX.out.below HBK.out)
  clear HBK
  generalize w1.alloc (Obj.cells #[.int .i64 D.fi, .int .i64 D.fl, .int .i64 D.f, .int .i64 D.cu, .int .i64 D.rf] 126) = W1 at *
  generalize w1.heap.size = K at *
  clear hsl
  generalize hll : (s.ar.getD p []).length = la at *
  clear hll
  by_cases hz : le = 0
  · subst hz
    have HE2 := Lib.hid (HE.out.trans (if_neg (by simp)))
    clear HE
    have HE := HE2
    clear HE2
    have d1 := HK.out.cell 1 (.int .i64 D.fl) rfl
    go_cut [30] (fun v wx => v = .bool (decide (o.wr = true ∧ andV D.fl 2 = 0)) ∧ W1 = wx)
    case first =>
      cases hw : o.wr with
      | false =>
        have t10 := HX.out.t.cell 10 (.bool false) (by rw [HCS.out, ← hw]; rfl)
        go_wp2_with fail
        go_meet
        exact ⟨by simp [hw], rfl⟩
      | true =>
        have t10 := HX.out.t.cell 10 (.bool true) (by rw [HCS.out, ← hw]; rfl)
        by_cases ha : andV D.fl 2 = 0
        · have ha1 : bits BinOp.and IntKind.i64 D.fl 2 = 0 := ha
          go_wp2_with fail
          go_meet
          exact ⟨by simp [hw, ha], rfl⟩
        · have ha1 : ¬ bits BinOp.and IntKind.i64 D.fl 2 = 0 := ha
          have ha2 : (bits BinOp.and IntKind.i64 D.fl 2 == 0) = false := by simpa using ha1
          go_wp2_with fail
          go_meet
          exact ⟨by simp [ha], rfl⟩
    case rest =>
    obtain ⟨rfl, rfl⟩ := hcut
    clear d1
    by_cases hc : o.wr = true ∧ andV D.fl 2 = 0
    · have hd : decide (o.wr = true ∧ andV D.fl 2 = 0) = true := decide_eq_true hc
      rw [hd]
      obtain ⟨PR1, PR2⟩ := PR
      obtain ⟨rfl, rfl⟩ : PR1 = _ ∧ PR2 = _ := by have := HE.out.trans (if_pos hc); exact ⟨congrArg Prod.fst this, congrArg Prod.snd this⟩
      clear HE
      clear hc hd HM1A HRO HM2A
      go_wp2_with fail
      refine (bad_any 13 _).mono ?_
      rintro e w5 ⟨rfl, hb⟩
      replace HX := Lib.hid (HX.out.below hb)
      clear hb
      obtain ⟨_, ⟨r0, r1, r2, r3⟩, rh⟩ := At.four HX.out.r
      obtain ⟨rc0, rc1, rc2, rc3⟩ := (At.four HX.out.r).1
      go_wp2_with fail
      generalize hwB : (((w5.setCell ⟨W.heap.size + 1, 0, none⟩ (.int .i64 13)).setCell ⟨W.heap.size + 1, 1, none⟩ (.int .i64 0)).setCell ⟨W.heap.size + 1, 2, none⟩ (.string ⟨#[]⟩)).setCell ⟨W.heap.size + 1, 3, none⟩ (.nilFunc) = w9 at *
      have HP : Bx2 W w9 W.heap.size (W.heap.size + 1) cs [.int .i64 13, .int .i64 0, .string ⟨#[]⟩, .nilFunc] := by rw [← hwB]; exact HX.out.putR [.int .i64 13, .int .i64 0, .string ⟨#[]⟩, .nilFunc] rfl
      skip
      clear r0 r1 r2 r3 rc0 rc1 rc2 rc3
      obtain ⟨⟨q0, q1, q2, q3⟩, _, _⟩ := At.four HP.r
      exact bodyPost_ret (v := .agg #[.int .i64 13, .int .i64 0, .string ⟨#[]⟩, .nilFunc]) (by simp [results, Tryz.results73, go_sem, q0, q1, q2, q3]) rfl ⟨_, rfl, HP.bel, Or.inl ⟨rfl, rfl⟩⟩
    · have hd : decide (o.wr = true ∧ andV D.fl 2 = 0) = false := decide_eq_false hc
      rw [hd]
      have HE2 := Lib.hid (HE.out.trans (if_neg hc))
      clear HE hc hd
      have HE := HE2
      clear HE2
      have d0 := HK.out.cell 0 (.int .i64 D.fi) rfl
      have t7 := HX.out.t.cell 7 (.int .i64 o.len) (by rw [HCS.out]; rfl); have t8 := HX.out.t.cell 8 (.int .i64 o.pg) (by rw [HCS.out]; rfl); have t10 := HX.out.t.cell 10 (.bool o.wr) (by rw [HCS.out]; rfl)
      obtain ⟨TE, hte⟩ : ∃ TE, (Ara.mapV [] (⟨0, o.len, D.fi, o.pg, o.wr⟩ : Ar)).2 = TE := ⟨_, rfl⟩
      rw [hte] at HE
      have HC1 : Hid (∀ W', Calls Tryz.prog 106 #[.slice none 0 0, .agg #[.int .i64 0, .int .i64 o.len, .int .i64 D.fi, .int .i64 o.pg, .bool o.wr]] W' (fun e w' => ∃ b c n, e = .returned (.tuple #[.slice b n c, .int .i64 TE]) ∧ Below W'.heap.size W' w')) := Lib.hid fun W' => (HM1A.out ⟨0, o.len, D.fi, o.pg, o.wr⟩ W').mono fun e w' ⟨b, c, h1, h2⟩ => ⟨b, c, _, by rw [← hte]; exact h1, h2⟩
      clear HM1A hte
      go_upto_region 7 with (fail)
      have HG := Lib.hid (At.new W1 [.int .i64 0, .int .i64 o.len, .int .i64 D.fi, .int .i64 o.pg, .bool o.wr] 139)
      have HBG : Hid (Below W1.heap.size W1 (W1.alloc (.cells ([.int .i64 0, .int .i64 o.len, .int .i64 D.fi, .int .i64 o.pg, .bool o.wr] : List Value).toArray 139))) := Lib.hid ((Below.refl _ _).alloc (Nat.le_refl _) _)
      replace HX := Lib.hid (HX.out.below HBG.out)
      have HRG : Hid (W.heap.size + 1 < W1.heap.size) := Lib.hid (by have := HR1.out; have := HK.out.hi; omega)
      generalize W1.alloc (Obj.cells #[.int .i64 0, .int .i64 o.len, .int .i64 D.fi, .int .i64 o.pg, .bool o.wr] 139) = W2 at *
      generalize W1.heap.size = G at *
      clear d0 t7 t8 t10 HBG
      obtain ⟨⟨n0, n1, n2, n3, n4⟩, _, _⟩ := Des.At.five HG.out
      go_wp2_with fail
      refine (HC1.out _).mono ?_
      rintro e w3 ⟨b, c, n, rfl, hb⟩
      replace HX := Lib.hid (HX.out.below hb)
      replace HG := Lib.hid (HG.out.below hb HG.out.hi)
      clear hb n0 n1 n2 n3 n4 HC1
      by_cases hu : TE = 0
      · subst hu
        have HE2 := Lib.hid (HE.out.trans (if_neg (by simp)))
        clear HE
        have HE := HE2
        clear HE2
        go_upto_region 10 with (fail)
        obtain ⟨RP, RB, hrr⟩ : ∃ RP RB, Ara.roomV (s.ar.getD p []) o.len = (RP, RB) := ⟨_, _, rfl⟩
        rw [hrr] at HE HRO
        simp only at HE HRO
        clear hrr
        go_cut [9, 10] (fun v9 v10 wx => v9 = .int .i64 RP ∧ v10 = .bool RB ∧ Hid (Below w3.heap.size w3 wx))
        case first =>
          replace HX := Lib.hid (HX.out.below (Below.refl _ _).drew)
          have t0 := HX.out.t.cell 0 (.pointer (some ⟨l.M, 0, none⟩)) (by rw [HCS.out]; rfl); have t1 := HX.out.t.cell 1 (.int .i64 (p : Int)) (by rw [HCS.out]; rfl); have t7 := HX.out.t.cell 7 (.int .i64 o.len) (by rw [HCS.out]; rfl); have mR := (HM.out.below HX.out.bel).cR; have rr := HR.out _ (HM.out.below HX.out.bel)
          go_region_held3 (fun w' => w'.cell? ⟨W.heap.size, 0, none⟩ = some (.pointer (some ⟨l.M, 0, none⟩)) ∧ w'.cell? ⟨W.heap.size, 1, none⟩ = some (.int .i64 (p : Int)) ∧ w'.cell? ⟨W.heap.size, 7, none⟩ = some (.int .i64 o.len) ∧ w'.cell? ⟨l.M, 26, none⟩ = some (.slice (some ⟨l.R, 0, none⟩) s.scr.length s.scr.length) ∧ w'.cell? ⟨l.R, p, none⟩ = some (.slice a0 la c0)) (go_keep) (first | (go_at_call 107; refine (HRO.out _ HX.out.bel).mono ?_; rintro e w4 ⟨rfl, hb⟩; have HBB := Lib.hid hb; replace HX := Lib.hid (HX.out.below hb); clear hb t0 t1 t7 mR rr; have t0 := HX.out.t.cell 0 (.pointer (some ⟨l.M, 0, none⟩)) (by rw [HCS.out]; rfl); have t1 := HX.out.t.cell 1 (.int .i64 (p : Int)) (by rw [HCS.out]; rfl); have t7 := HX.out.t.cell 7 (.int .i64 o.len) (by rw [HCS.out]; rfl); have mR := (HM.out.below HX.out.bel).cR; have rr := HR.out _ (HM.out.below HX.out.bel)))
          all_goals
            go_wp2_with fail
            go_meet
            exact ⟨rfl, rfl, Lib.hid ((Below.refl w3.heap.size w3).drew.trans HBB.out)⟩
        case rest =>
        obtain ⟨rfl, rfl, HBB⟩ := hcut
        replace HX := Lib.hid (HX.out.below HBB.out)
        replace HG := Lib.hid (HG.out.below HBB.out HG.out.hi)
        clear HBB HRO
        cases RB with
        | false =>
          obtain ⟨PR1, PR2⟩ := PR
          obtain ⟨rfl, rfl⟩ : PR1 = _ ∧ PR2 = _ := by have := HE.out.trans (if_pos rfl); exact ⟨congrArg Prod.fst this, congrArg Prod.snd this⟩
          clear HE
          clear HM2A
          go_wp2_with fail
          refine (bad_any 3 _).mono ?_
          rintro e w5 ⟨rfl, hb⟩
          replace HX := Lib.hid (HX.out.below hb)
          clear hb
          obtain ⟨_, ⟨r0, r1, r2, r3⟩, rh⟩ := At.four HX.out.r
          obtain ⟨rc0, rc1, rc2, rc3⟩ := (At.four HX.out.r).1
          go_wp2_with fail
          generalize hwB : (((w5.setCell ⟨W.heap.size + 1, 0, none⟩ (.int .i64 3)).setCell ⟨W.heap.size + 1, 1, none⟩ (.int .i64 0)).setCell ⟨W.heap.size + 1, 2, none⟩ (.string ⟨#[]⟩)).setCell ⟨W.heap.size + 1, 3, none⟩ (.nilFunc) = w9 at *
          have HP : Bx2 W w9 W.heap.size (W.heap.size + 1) cs [.int .i64 3, .int .i64 0, .string ⟨#[]⟩, .nilFunc] := by rw [← hwB]; exact HX.out.putR [.int .i64 3, .int .i64 0, .string ⟨#[]⟩, .nilFunc] rfl
          skip
          clear r0 r1 r2 r3 rc0 rc1 rc2 rc3
          obtain ⟨⟨q0, q1, q2, q3⟩, _, _⟩ := At.four HP.r
          exact bodyPost_ret (v := .agg #[.int .i64 3, .int .i64 0, .string ⟨#[]⟩, .nilFunc]) (by simp [results, Tryz.results73, go_sem, q0, q1, q2, q3]) rfl ⟨_, rfl, HP.bel, Or.inl ⟨rfl, rfl⟩⟩
        | true =>
          have HE2 := Lib.hid (HE.out.trans (if_neg (by simp)))
          clear HE
          have HE := HE2
          clear HE2
          obtain ⟨⟨n0, n1, n2, n3, n4⟩, ⟨f0, f1, f2, f3, f4⟩, fh⟩ := Des.At.five HG.out
          have HX2 : Hid (Bx2 W (wc.setCell ⟨G, 0, none⟩ (.int .i64 RP)) W.heap.size (W.heap.size + 1) cs [.int .i64 0, .int .i64 0, .string ⟨#[]⟩, .nilFunc]) := Lib.hid ⟨HX.out.bel.setCell (p := ⟨G, 0, none⟩) (by have := HRG.out; show W.heap.size ≤ G; omega) _, HX.out.t.setOther (x := ⟨G, 0, none⟩) (by have := HRG.out; show W.heap.size ≠ G; omega) _, HX.out.r.setOther (x := ⟨G, 0, none⟩) (by have := HRG.out; show W.heap.size + 1 ≠ G; omega) _, HX.out.lo, HX.out.tr⟩
          have HG2 := Lib.hid (HG.out.set 0 (.int .i64 RP))
          go_upto_region 14 with (fail)
          generalize wc.setCell ⟨G, 0, none⟩ (.int .i64 RP) = W4 at *
          replace HG2 : Hid (At W4 G [.int .i64 RP, .int .i64 o.len, .int .i64 D.fi, .int .i64 o.pg, .bool o.wr]) := HG2
          replace HX := HX2
          clear HX2 HG n0 n1 n2 n3 n4 f0 f1 f2 f3 f4 fh
          obtain ⟨TD, TF, hte⟩ : ∃ TD TF, Ara.mapV (s.ar.getD p []) (⟨RP, o.len, D.fi, o.pg, o.wr⟩ : Ar) = (TD, TF) := ⟨_, _, rfl⟩
          have HC2 := Lib.hid (HM2A.out ⟨RP, o.len, D.fi, o.pg, o.wr⟩)
          rw [hte] at HE HC2
          simp only at HE HC2
          clear hte HM2A
          have HM1 := Lib.hid (HM.out.below HX.out.bel)
          have HGh : Hid (G < W4.heap.size) := Lib.hid HG2.out.hi
          have HR4 : Hid (W.heap.size + 1 < W4.heap.size) := Lib.hid HX.out.r.hi
          go_cut [5, 11] (fun s5 s11 wx => ∃ (X : Nat) (b : Option Addr) (c : Nat), s5 = .int .i64 TF ∧ s11 = .pointer (some ⟨X, 0, none⟩) ∧ Hid (Nb W4 wx X [.slice b TD.length c]) ∧ Hid (ARow W4.heap.size b c TD wx))
          case first =>
            have HX0 := HX
            replace HX := Lib.hid (HX.out.below (Below.refl _ _).drew)
            have hT : W.heap.size < W4.heap.size := HX0.out.t.hi
            have hM : l.M < W4.heap.size := (HM.out.below HX0.out.bel).m.hi
            have e1 : ¬ W4.heap.size = W.heap.size := by omega
            have e2 : ¬ W.heap.size = W4.heap.size := by omega
            have e3 : ¬ W4.heap.size = l.M := by omega
            have e4 : ¬ l.M = W4.heap.size := by omega
            have hm1 : l.R < W4.heap.size := HM1.out.hi _ (by simp [vs])
            have f1a : ¬ W4.heap.size = l.R := by omega
            have f1b : ¬ l.R = W4.heap.size := by omega
            have hm2 : G < W4.heap.size := HGh.out
            have f2a : ¬ W4.heap.size = G := by omega
            have f2b : ¬ G = W4.heap.size := by omega
            have yt0 := HX0.out.t.cell 0 (.pointer (some ⟨l.M, 0, none⟩)) (by rw [HCS.out]; rfl); have yt1 := HX0.out.t.cell 1 (.int .i64 (p : Int)) (by rw [HCS.out]; rfl); have ymR := (HM.out.below HX0.out.bel).cR; have yrr := HR.out _ (HM.out.below HX0.out.bel); obtain ⟨⟨yn0, yn1, yn2, yn3, yn4⟩, _, _⟩ := Des.At.five HG2.out
            have t0 := HX.out.t.cell 0 (.pointer (some ⟨l.M, 0, none⟩)) (by rw [HCS.out]; rfl); have t1 := HX.out.t.cell 1 (.int .i64 (p : Int)) (by rw [HCS.out]; rfl); have mR := (HM.out.below HX.out.bel).cR; have rr := HR.out _ (HM.out.below HX.out.bel); obtain ⟨⟨n0, n1, n2, n3, n4⟩, _, _⟩ := Des.At.five (HG2.out.below ((Below.refl W4.heap.size W4).drew) HG2.out.hi)
            go_region_held3 (fun w' => w'.cell? ⟨W.heap.size, 0, none⟩ = some (.pointer (some ⟨l.M, 0, none⟩)) ∧ w'.cell? ⟨W.heap.size, 1, none⟩ = some (.int .i64 (p : Int)) ∧ w'.cell? ⟨l.M, 26, none⟩ = some (.slice (some ⟨l.R, 0, none⟩) s.scr.length s.scr.length) ∧ w'.cell? ⟨l.R, p, none⟩ = some (.slice a0 la c0) ∧ w'.cell? ⟨G, 0, none⟩ = some (.int .i64 RP) ∧ w'.cell? ⟨G, 1, none⟩ = some (.int .i64 o.len) ∧ w'.cell? ⟨G, 2, none⟩ = some (.int .i64 D.fi) ∧ w'.cell? ⟨G, 3, none⟩ = some (.int .i64 o.pg) ∧ w'.cell? ⟨G, 4, none⟩ = some (.bool o.wr)) (go_keep) (first | (go_at_call 106; refine (HC2.out _ (by first | exact HX.out.bel | exact (HX.out.below ((Below.refl _ _).alloc (Nat.le_refl _) _)).bel)).mono ?_; rintro e w5 ⟨b, c, rfl, hrow, hb⟩; have HW := Lib.hid hrow; clear hrow; (first | (have HA := Lib.hid hb; have HKB := Lib.hid (HG2.out.below ((Below.refl W4.heap.size W4).drew.trans hb) HG2.out.hi); replace HX := Lib.hid (HX.out.below hb)) | (have HB := Lib.hid hb; have HKB := Lib.hid (HG2.out.below (((Below.refl W4.heap.size W4).alloc (Nat.le_refl _) _).drew.trans (hb.mono (by show W4.heap.size ≤ (W4.alloc _).heap.size; rw [Des.alloc_size]; omega))) HG2.out.hi); obtain ⟨_, f0, fh⟩ := At.one (((At.new W4 [.slice none 0 0] 106).drew).below hb (by show W4.heap.size < (W4.alloc _).heap.size; rw [Des.alloc_size]; omega)); replace HX := Lib.hid ((HX.out.below ((Below.refl _ _).alloc (Nat.le_refl _) _)).below hb))); clear hb t0 t1 mR rr n0 n1 n2 n3 n4; have t0 := HX.out.t.cell 0 (.pointer (some ⟨l.M, 0, none⟩)) (by rw [HCS.out]; rfl); have t1 := HX.out.t.cell 1 (.int .i64 (p : Int)) (by rw [HCS.out]; rfl); have mR := (HM.out.below HX.out.bel).cR; have rr := HR.out _ (HM.out.below HX.out.bel); obtain ⟨⟨n0, n1, n2, n3, n4⟩, _, _⟩ := Des.At.five HKB.out))
            all_goals
              go_wp2_with fail
              go_meet
              first | exact ⟨_, b, c, rfl, rfl, Lib.hid (Nb.after ((Below.refl W4.heap.size W4).drew.trans HA.out) [.slice b TD.length c] 106), Lib.hid (ar_after HW.out _)⟩ | exact ⟨_, b, c, rfl, rfl, Lib.hid (Nb.before (T := 106) (zs := [.slice none 0 0]) ((Below.refl (W4.alloc _).heap.size (W4.alloc _)).drew.trans HB.out) [.slice b TD.length c] rfl), Lib.hid (ar_before HW.out [.slice b TD.length c])⟩
          case rest =>
          obtain ⟨X, b, c, rfl, rfl, HN, HW⟩ := hcut
          replace HX := Lib.hid (HX.out.below HN.out.bel)
          clear HC2
          by_cases hv : TF = 0
          · subst hv
            obtain ⟨PR1, PR2⟩ := PR
            obtain ⟨rfl, rfl⟩ : PR1 = _ ∧ PR2 = _ := by have := HE.out.trans (if_neg (by simp)); exact ⟨congrArg Prod.fst this, congrArg Prod.snd this⟩
            clear HE
            replace hmf := hmf'.out
            have HSC : Hid (p < s.ar.length ∧ p < s.scr.length ∧ s.scr.length ≤ 1000) := Lib.hid ⟨hp, hps, hn2⟩
            obtain ⟨_, ⟨r0, r1, r2, r3⟩, rh⟩ := At.four HX.out.r
            obtain ⟨rc0, rc1, rc2, rc3⟩ := (At.four HX.out.r).1
            go_wp2_with fail
            generalize hwB : (((wc.setCell ⟨W.heap.size + 1, 0, none⟩ (.int .i64 0)).setCell ⟨W.heap.size + 1, 1, none⟩ (.int .i64 RP)).setCell ⟨W.heap.size + 1, 2, none⟩ (.string ⟨#[]⟩)).setCell ⟨W.heap.size + 1, 3, none⟩ (.func (.func 108) #[] #[.pointer (some ⟨X, 0, none⟩), .pointer (some ⟨W.heap.size, 0, none⟩)]) = w9 at *
            have HP : Bx2 W w9 W.heap.size (W.heap.size + 1) cs [.int .i64 0, .int .i64 RP, .string ⟨#[]⟩, .func (.func 108) #[] #[.pointer (some ⟨X, 0, none⟩), .pointer (some ⟨W.heap.size, 0, none⟩)]] := by rw [← hwB]; exact HX.out.putR [.int .i64 0, .int .i64 RP, .string ⟨#[]⟩, .func (.func 108) #[] #[.pointer (some ⟨X, 0, none⟩), .pointer (some ⟨W.heap.size, 0, none⟩)]] rfl
            skip
            have HAK : Hid (At w9 X [.slice b TD.length c]) := Lib.hid (by rw [← hwB]; exact HN.out.at'.apart (by have := HN.out.lo; have := HR4.out; omega) 0 [.int .i64 0, .int .i64 RP, .string ⟨#[]⟩, .func (.func 108) #[] #[.pointer (some ⟨X, 0, none⟩), .pointer (some ⟨W.heap.size, 0, none⟩)]])
            have HAW : Hid (ARow 0 b c TD w9) := Lib.hid (by rw [← hwB]; exact arow_sets (Ara.ARow.mono HW.out (Nat.zero_le _)) [.int .i64 0, .int .i64 RP, .string ⟨#[]⟩, .func (.func 108) #[] #[.pointer (some ⟨X, 0, none⟩), .pointer (some ⟨W.heap.size, 0, none⟩)]] (fun q hq => by have := arow_lo HW.out q hq; have := HR4.out; omega))
            clear r0 r1 r2 r3 rc0 rc1 rc2 rc3
            obtain ⟨⟨q0, q1, q2, q3⟩, _, _⟩ := At.four HP.r
            exact bodyPost_ret (v := .agg #[.int .i64 0, .int .i64 RP, .string ⟨#[]⟩, .func (.func 108) #[] #[.pointer (some ⟨X, 0, none⟩), .pointer (some ⟨W.heap.size, 0, none⟩)]]) (by simp [results, Tryz.results73, go_sem, q0, q1, q2, q3]) rfl ⟨_, rfl, HP.bel, Or.inr ⟨108, _, rfl, fun _ _ => rfl, fun W2' hf2 => clo108 B l s p o x b c TD X W.heap.size W2' (hf2.mm HP.bel) HSC.out.1 HSC.out.2.1 HSC.out.2.2 (by rw [← HCS.out]; exact hf2.at HP.t HP.lo) (hf2.at HAK.out (by first | omega | (have := HN.out.lo; have := HR4.out; omega) | (have := HR1.out; omega))) (hf2.row HAW.out (fun q hq => by have := arow_lo HW.out q hq; first | (have := HR4.out; omega) | (have := HR1.out; omega))) (fun q hq hm => by have := HM.out.hix _ hm; have := arow_lo HW.out q hq; have := HR4.out; omega)⟩⟩
          · have hv' : (TF == 0) = false := by simpa using hv
            obtain ⟨PR1, PR2⟩ := PR
            obtain ⟨rfl, rfl⟩ : PR1 = _ ∧ PR2 = _ := by have := HE.out.trans (if_pos hv); exact ⟨congrArg Prod.fst this, congrArg Prod.snd this⟩
            clear HE
            go_wp2_with fail
            refine (bad_any TF _).mono ?_
            rintro e w6 ⟨rfl, hb⟩
            replace HX := Lib.hid (HX.out.below hb)
            clear hb
            obtain ⟨_, ⟨r0, r1, r2, r3⟩, rh⟩ := At.four HX.out.r
            obtain ⟨rc0, rc1, rc2, rc3⟩ := (At.four HX.out.r).1
            go_wp2_with fail
            generalize hwB : (((w6.setCell ⟨W.heap.size + 1, 0, none⟩ (.int .i64 TF)).setCell ⟨W.heap.size + 1, 1, none⟩ (.int .i64 0)).setCell ⟨W.heap.size + 1, 2, none⟩ (.string ⟨#[]⟩)).setCell ⟨W.heap.size + 1, 3, none⟩ (.nilFunc) = w9 at *
            have HP : Bx2 W w9 W.heap.size (W.heap.size + 1) cs [.int .i64 TF, .int .i64 0, .string ⟨#[]⟩, .nilFunc] := by rw [← hwB]; exact HX.out.putR [.int .i64 TF, .int .i64 0, .string ⟨#[]⟩, .nilFunc] rfl
            skip
            clear r0 r1 r2 r3 rc0 rc1 rc2 rc3
            obtain ⟨⟨q0, q1, q2, q3⟩, _, _⟩ := At.four HP.r
            exact bodyPost_ret (v := .agg #[.int .i64 TF, .int .i64 0, .string ⟨#[]⟩, .nilFunc]) (by simp [results, Tryz.results73, go_sem, q0, q1, q2, q3]) rfl ⟨_, rfl, HP.bel, Or.inl ⟨rfl, rfl⟩⟩
      · have hu' : (TE == 0) = false := by simpa using hu
        obtain ⟨PR1, PR2⟩ := PR
        obtain ⟨rfl, rfl⟩ : PR1 = _ ∧ PR2 = _ := by have := HE.out.trans (if_pos hu); exact ⟨congrArg Prod.fst this, congrArg Prod.snd this⟩
        clear HE
        clear HRO HM2A
        go_wp2_with fail
        refine (bad_any TE _).mono ?_
        rintro e w5 ⟨rfl, hb⟩
        replace HX := Lib.hid (HX.out.below hb)
        clear hb
        obtain ⟨_, ⟨r0, r1, r2, r3⟩, rh⟩ := At.four HX.out.r
        obtain ⟨rc0, rc1, rc2, rc3⟩ := (At.four HX.out.r).1
        go_wp2_with fail
        generalize hwB : (((w5.setCell ⟨W.heap.size + 1, 0, none⟩ (.int .i64 TE)).setCell ⟨W.heap.size + 1, 1, none⟩ (.int .i64 0)).setCell ⟨W.heap.size + 1, 2, none⟩ (.string ⟨#[]⟩)).setCell ⟨W.heap.size + 1, 3, none⟩ (.nilFunc) = w9 at *
        have HP : Bx2 W w9 W.heap.size (W.heap.size + 1) cs [.int .i64 TE, .int .i64 0, .string ⟨#[]⟩, .nilFunc] := by rw [← hwB]; exact HX.out.putR [.int .i64 TE, .int .i64 0, .string ⟨#[]⟩, .nilFunc] rfl
        skip
        clear r0 r1 r2 r3 rc0 rc1 rc2 rc3
        obtain ⟨⟨q0, q1, q2, q3⟩, _, _⟩ := At.four HP.r
        exact bodyPost_ret (v := .agg #[.int .i64 TE, .int .i64 0, .string ⟨#[]⟩, .nilFunc]) (by simp [results, Tryz.results73, go_sem, q0, q1, q2, q3]) rfl ⟨_, rfl, HP.bel, Or.inl ⟨rfl, rfl⟩⟩
  · have hz' : (le == 0) = false := by simpa using hz
    obtain ⟨PR1, PR2⟩ := PR
    obtain ⟨rfl, rfl⟩ : PR1 = _ ∧ PR2 = _ := by have := HE.out.trans (if_pos hz); exact ⟨congrArg Prod.fst this, congrArg Prod.snd this⟩
    clear HE
    clear HM1A HRO HM2A
    go_wp2_with fail
    refine (bad_any le _).mono ?_
    rintro e w5 ⟨rfl, hb⟩
    replace HX := Lib.hid (HX.out.below hb)
    clear hb
    obtain ⟨_, ⟨r0, r1, r2, r3⟩, rh⟩ := At.four HX.out.r
    obtain ⟨rc0, rc1, rc2, rc3⟩ := (At.four HX.out.r).1
    go_wp2_with fail
    generalize hwB : (((w5.setCell ⟨W.heap.size + 1, 0, none⟩ (.int .i64 le)).setCell ⟨W.heap.size + 1, 1, none⟩ (.int .i64 0)).setCell ⟨W.heap.size + 1, 2, none⟩ (.string ⟨#[]⟩)).setCell ⟨W.heap.size + 1, 3, none⟩ (.nilFunc) = w9 at *
    have HP : Bx2 W w9 W.heap.size (W.heap.size + 1) cs [.int .i64 le, .int .i64 0, .string ⟨#[]⟩, .nilFunc] := by rw [← hwB]; exact HX.out.putR [.int .i64 le, .int .i64 0, .string ⟨#[]⟩, .nilFunc] rfl
    skip
    clear r0 r1 r2 r3 rc0 rc1 rc2 rc3
    obtain ⟨⟨q0, q1, q2, q3⟩, _, _⟩ := At.four HP.r
    exact bodyPost_ret (v := .agg #[.int .i64 le, .int .i64 0, .string ⟨#[]⟩, .nilFunc]) (by simp [results, Tryz.results73, go_sem, q0, q1, q2, q3]) rfl ⟨_, rfl, HP.bel, Or.inl ⟨rfl, rfl⟩⟩
end Go.Proofs.YtimhaidiclbnhaaGreat.Ver
