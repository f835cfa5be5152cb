/- Layer 46, shared texts of this seat, part 23. -/
import Derived.Test.YtimhaidiclbnhaaGreatM21
import Derived.Test.YtimhaidiclbnhaaGreatM22
/- Layer 46: update, change. -/
set_option linter.unusedSimpArgs false
set_option linter.unusedVariables false
set_option maxRecDepth 100000
namespace Go.Proofs.YtimhaidiclbnhaaGreat.Ver
open Go.ChangeShapes Go.WideShapes Go.ChangeAt Go.RowKit
open Des (Dv De Dn DIn DBlk DAns Vi At RowOf ints DSz numE numV lookV updD updE)
open Ara (Ar ARow)
open Con (StrRow)

set_option maxHeartbeats 8000000 in
theorem update_any (B : Nat) (l : Ly) (s : St) (p : Int) (o : Opr) (x : Ev) (n : Int) (D : Dn) (W : World) (h : Mm B W l s) (hr : Des.Rt s.d) :
    Calls Tryz.prog 94 #[stepV l.M p o x, .int .i64 n, .agg #[.int .i64 D.fi, .int .i64 D.fl, .int .i64 D.f, .int .i64 D.cu, .int .i64 D.rf]] W fun e w' => ∃ y : Dv, e = .returned (.tuple #[]) ∧ y.pl = updD s.d n D.f D.cu ∧ Mm B w' { l with x := y } { s with d := y.pl } ∧ Vk (vs l) W w' := by
  have HU : Hid (∀ W', Below W.heap.size W W' → Calls Tryz.prog 98 #[.agg #[.slice l.x.oa l.x.o.length l.x.oc, .slice l.x.ta l.x.t.length l.x.tc], .int .i64 n, .agg #[.int .i64 D.fi, .int .i64 D.fl, .int .i64 D.f, .int .i64 D.cu, .int .i64 D.rf]] W' fun e w' => ∃ y : Dv, e = .returned (.tuple #[.agg #[.slice y.oa y.o.length y.oc, .slice y.ta y.t.length y.tc], .int .i64 (updE s.d n D.f D.cu)]) ∧ y.pl = updD s.d n D.f D.cu ∧ DAns W' l.x w' y ∧ Below W'.heap.size W' w') := Lib.hid fun W' hb => by
    have h1 := Des.upd_v l.x n D.fi D.fl D.f D.cu D.rf W' (h.below hb).im.di.di (h.dz hr)
    rw [h.im.dp] at h1
    exact h1
  have HM := Lib.hid h
  have HX := Lib.hid (Bx2.start W (stepC l.M p o x) [.int .i64 D.fi, .int .i64 D.fl, .int .i64 D.f, .int .i64 D.cu, .int .i64 D.rf] 122 126)
  unfold stepV
  obtain ⟨cs, hcs⟩ : ∃ cs, cs = stepC l.M p o x := ⟨_, rfl⟩
  have HCS := Lib.hid hcs
  rw [← hcs] at HX ⊢
  clear hcs h
  generalize updE s.d n D.f D.cu = ue at *
  go_enter Tryz.func94, Tryz.ntmps94
  go_upto_region 1 with (fail)
  generalize World.alloc _ (Obj.cells #[.int .i64 D.fi, .int .i64 D.fl, .int .i64 D.f, .int .i64 D.cu, .int .i64 D.rf] 126) = W1 at *
  have HX0 := HX
  replace HX := Lib.hid (HX.out.below (Below.refl _ _).drew)
  have t0 := HX.out.t.cell 0 (.pointer (some ⟨l.M, 0, none⟩)) (by rw [HCS.out]; rfl)
  obtain ⟨mO, mP⟩ := (HM.out.below HX.out.bel).cO
  obtain ⟨⟨d0, d1, d2, d3, d4⟩, _, _⟩ := Des.At.five HX.out.r
  have z0 := (HM.out.below HX.out.bel).m.free 24 (by simp [mC])
  have z1 := (HM.out.below HX.out.bel).m.free 25 (by simp [mC])
  have z2 := (HM.out.below HX.out.bel).m.hi
  (first | go_region_with (first | (go_at_call 98; refine (HU.out _ HX.out.bel).mono ?_; rintro e w2 ⟨y, rfl, hpl, ha, hb⟩; have HA := Lib.hid ha; have HP := Lib.hid hpl; have HX2 := Lib.hid (HX.out.below hb); clear ha hpl hb t0 mO mP d0 d1 d2 d3 d4 z0 z1 z2; have t0 := HX2.out.t.cell 0 (.pointer (some ⟨l.M, 0, none⟩)) (by rw [HCS.out]; rfl); have z0 := (HM.out.below HX2.out.bel).m.free 24 (by simp [mC]); have z1 := (HM.out.below HX2.out.bel).m.free 25 (by simp [mC]); have z2 := (HM.out.below HX2.out.bel).m.hi; obtain ⟨mO, mP⟩ := (HM.out.below HX2.out.bel).cO)) | fail)
  all_goals
    go_wp2_with fail
    go_end0
    exact ⟨y, rfl, HP.out, (HM.out.below HX2.out.bel).putO y (HA.out.vi (HM.out.below HX.out.bel).im.di (HM.out.below HX.out.bel).hix), (Vk.ofBelow HX2.out.bel).trans ((Vk.set _ _ _ _ (mvs l).1).trans (Vk.set _ _ _ _ (mvs l).1))⟩
end Go.Proofs.YtimhaidiclbnhaaGreat.Ver
/- Layer 46: change. -/
set_option linter.unusedSimpArgs false
set_option linter.unusedVariables false
set_option maxRecDepth 100000
namespace Go.Proofs.YtimhaidiclbnhaaGreat.Ver
open Go.ChangeShapes Go.WideShapes Go.ChangeAt Go.RowKit
open Des (Dv De Dn DIn DBlk DAns Vi At RowOf ints DSz)
open Ara (Ar ARow)
open Con (StrRow)

theorem fs_at (l : List ByteArray) (f : Nat) (hf : f < l.length) : (l.map Value.string)[f]? = some (.string (l.getD f ⟨#[]⟩)) := by simp [hf]
/-- a file has another content -/
def chS (s : St) (f : Nat) (d : ByteArray) : St := { s with fs := s.fs.set f d, h := s.h.set f ((s.h.getD f ([], 0)).1 ++ [d], (s.h.getD f ([], 0)).2) }
set_option maxHeartbeats 8000000 in
theorem change_any (B : Nat) (l : Ly) (s : St) (p : Int) (o : Opr) (x : Ev) (f : Nat) (d : ByteArray) (W : World) (h : Mm B W l s) (hf : f < s.fs.length) (hfh : f < s.h.length) (hn : s.fs.length ≤ 1000) (hl : (s.h.getD f ([], 0)).1.length ≤ 10000) :
    Calls Tryz.prog 97 #[stepV l.M p o x, .int .i64 f, .string d] W fun e w' => ∃ hs : List Sl, e = .returned (.tuple #[]) ∧ Mm B w' { l with hs := hs } (chS s f d) ∧ Vk (vs l) W w' := by
  have HM := Lib.hid h
  obtain ⟨L, q, hp⟩ : ∃ L q, s.h.getD f ([], 0) = (L, q) := ⟨_, _, rfl⟩
  obtain ⟨a, c, hsl⟩ : ∃ a c, l.hs.getD f Sl.nil = ⟨a, c⟩ := ⟨_, _, rfl⟩
  have HCH : Hid (∀ W', Mm B W' l { s with fs := s.fs.set f d } → Calls Tryz.prog 37 #[.agg #[.slice a L.length c, .int .i64 q], .string d] W' fun e w' => ∃ a' cap', e = .returned (.agg #[.slice a' (L.length + 1) cap', .int .i64 q]) ∧ StrRow W'.heap.size a' cap' (L ++ [d]) w' ∧ Below W'.heap.size W' w') := Lib.hid fun W' hm => by
    have h1 := (hm.im.rh f hfh).1
    rw [hsl] at h1
    have h2 : StrRow 0 a c L W' := by have e : (s.h.getD f ([], 0)).1 = L := by rw [hp]
                                      rw [← e]; exact h1
    exact Con.change_any 0 _ _ _ _ d W' h2 (by rw [hp] at hl; exact hl)
  have HH : Hid (∀ W', Mm B W' l { s with fs := s.fs.set f d } → (W'.cell? ⟨l.H, f * 2, none⟩ = some (.slice a L.length c) ∧ W'.cell? ⟨l.H, f * 2 + 1, none⟩ = some (.int .i64 q)) ∧ W'.frozen? ⟨l.H, f * 2, none⟩ = false ∧ W'.frozen? ⟨l.H, f * 2 + 1, none⟩ = false ∧ l.H < W'.heap.size) := Lib.hid fun W' hm => by
    obtain ⟨h1, h2⟩ := hC_at l.hs s.h f hfh
    rw [hp, hsl] at h1
    rw [hp] at h2
    exact ⟨⟨hm.h.cell (f * 2) _ h1, hm.h.cell (f * 2 + 1) _ h2⟩, hm.h.free (f * 2) (by rw [hC_len]; show _ < s.h.length * 2; omega), hm.h.free (f * 2 + 1) (by rw [hC_len]; show _ < s.h.length * 2; omega), hm.h.hi⟩
  have HPP : Hid (chS s f d = { s with fs := s.fs.set f d, h := s.h.set f (L ++ [d], q) }) := Lib.hid (by unfold chS; rw [hp])
  obtain ⟨cs, hcs⟩ : ∃ cs, cs = stepC l.M p o x := ⟨_, rfl⟩
  have HCS := Lib.hid hcs
  have HT := Lib.hid (At.new W cs 122)
  have HB : Hid (Below W.heap.size W (W.alloc (.cells cs.toArray 122))) := Lib.hid ((Below.refl _ _).alloc (Nat.le_refl _) _)
  have HFH := Lib.hid hfh
  unfold stepV
  rw [← hcs]
  clear hcs h hp hsl hl hfh
  generalize chS s f d = s9 at *
  go_enter Tryz.func97, Tryz.ntmps97
  go_upto_region 1 with (fail)
  generalize W.alloc (.cells cs.toArray 122) = W1 at *
  have hM1 := HM.out.below HB.out
  have t0 := HT.out.cell 0 (.pointer (some ⟨l.M, 0, none⟩)) (by rw [HCS.out]; rfl)
  have mF := hM1.cF
  have hfI : (f : Int) < (s.fs.length : Int) := by omega
  have hnI : (s.fs.length : Int) ≤ 1000 := by omega
  have f0 := hM1.f.free f (by rw [List.length_map]; exact hf)
  have f1 := hM1.f.hi
  have f2 := hM1.f.cell f _ (fs_at s.fs f hf)
  have HK := Lib.hid (hM1.putF f d)
  have HTF : Hid (At (W1.setCell ⟨l.F, f, none⟩ (.string d)) W.heap.size cs) := Lib.hid (HT.out.setOther (x := ⟨l.F, f, none⟩) (by have := HM.out.hi l.F (mvs l).2.1; show W.heap.size ≠ l.F; omega) _)
  have HV : Hid (Vk (vs l) W (W1.setCell ⟨l.F, f, none⟩ (.string d))) := Lib.hid ((Vk.ofBelow HB.out).trans (Vk.set _ _ _ _ (mvs l).2.1))
  clear hM1
  go_upto_region 2 with (fail)
  generalize W1.setCell ⟨l.F, f, none⟩ (.string d) = W2 at *
  replace HK : Hid (Mm B W2.drew l { s with fs := s.fs.set f d }) := Lib.hid (HK.out.below (Below.refl _ _).drew)
  replace HTF : Hid (At W2.drew W.heap.size cs) := Lib.hid (Des.At.drew HTF.out)
  clear t0 mF f0 f1 f2
  have t0 := HTF.out.cell 0 (.pointer (some ⟨l.M, 0, none⟩)) (by rw [HCS.out]; rfl)
  have mH : W2.drew.cell? ⟨l.M, 27, none⟩ = some (.slice (some ⟨l.H, 0, none⟩) s.fs.length s.fs.length) := (by have := HK.out.cH; simpa using this)
  obtain ⟨⟨g0, g1⟩, g2, g3, g4⟩ := HH.out _ HK.out
  have HKd := HK
  have e1 : ¬ W.heap.size = l.H := by have := HM.out.hi l.H (mvs l).2.2.2.2.2.1; omega
  have e2 : ¬ l.H = W.heap.size := fun e => e1 e.symm
  have e3 : ¬ l.M = l.H := HM.out.ne.1.2.2.2.2.1
  have e4 : ¬ l.H = l.M := fun e => e3 e.symm
  (first | go_region_with (first | (go_at_call 37; refine (HCH.out _ HK.out).mono ?_; rintro e w3 ⟨a', c', rfl, hs, hb⟩; have HS := Lib.hid hs; have HBB := Lib.hid hb; replace HTF := Lib.hid (HTF.out.below hb HTF.out.hi); replace HK := Lib.hid (HK.out.below hb); clear hs hb t0 mH g0 g1 g2 g3 g4; have t0 := HTF.out.cell 0 (.pointer (some ⟨l.M, 0, none⟩)) (by rw [HCS.out]; rfl); have mH : w3.cell? ⟨l.M, 27, none⟩ = some (.slice (some ⟨l.H, 0, none⟩) s.fs.length s.fs.length) := (by have := HK.out.cH; simpa using this); obtain ⟨⟨g0, g1⟩, g2, g3, g4⟩ := HH.out _ HK.out)) | fail)
  all_goals
    go_wp2_with fail
    go_end0
    refine ⟨l.hs.set f ⟨a', c'⟩, rfl, ?_, ((HV.out.trans (Vk.ofBelow (Below.refl _ _).drew)).trans (Vk.ofBelow HBB.out)).trans ((Vk.set _ _ _ _ (mvs l).2.2.2.2.2.1).trans (Vk.set _ _ _ _ (mvs l).2.2.2.2.2.1))⟩
    have hput := HK.out.putH f HFH.out a' c' (L ++ [d]) q (Con.StrRow.mono HS.out (Nat.zero_le _)) (fun q hq hm => by
      rcases HS.out with ⟨h2, _⟩ | ⟨g, h2, h3, _⟩
      · rw [h2] at hq; cases hq
      · rw [h2] at hq; cases hq
        have h1 : g < W2.drew.heap.size := HKd.out.hix _ hm
        omega)
    rw [HPP.out]
    rw [List.length_append] at hput
    exact hput
end Go.Proofs.YtimhaidiclbnhaaGreat.Ver
/- Layer 46: plans; closures that put descriptors. -/
set_option linter.unusedSimpArgs false
set_option linter.unusedVariables false
set_option maxRecDepth 100000
namespace Go.Proofs.YtimhaidiclbnhaaGreat.Ver
open Go.ChangeShapes Go.WideShapes Go.ChangeAt Go.RowKit
open Des (Dv De Dn DIn DBlk DAns Vi At RowOf ints DSz)
open Ara (Ar ARow)
open Con (StrRow)

/-- W2 is w' but for one block that the plan has not seen -/
def Far (B : Nat) (l : Ly) (s : St) (W w' W2 : World) : Prop := ∃ (q : Nat) (W0 : World), Mm B W0 l s ∧ Below W0.heap.size W0 W ∧ W0.heap.size ≤ q ∧ q < W.heap.size ∧ Vk [q] w' W2
theorem Far.mm {B : Nat} {l : Ly} {s : St} {W w' W2 : World} (h : Far B l s W w' W2) (hb : Below W.heap.size W w') : Mm B W2 l s := by
  obtain ⟨q, W0, h0, h1, h2, h3, h4⟩ := h
  have h5 : Below W0.heap.size W0 w' := h1.trans (hb.mono h1.size)
  exact h0.below ⟨h4.os.trans h5.os, h4.tape.trans h5.tape, h4.output.trans h5.output, Nat.le_trans h5.size h4.size, fun k hk => (h4.block k (by simp; omega) (Nat.lt_of_lt_of_le hk h5.size)).trans (h5.block k hk)⟩
theorem Far.at {B : Nat} {l : Ly} {s : St} {W w' W2 : World} {b : Nat} {cs : List Value} (h : Far B l s W w' W2) (ha : At w' b cs) (hb : W.heap.size ≤ b) : At W2 b cs := by
  obtain ⟨q, W0, h0, h1, h2, h3, h4⟩ := h
  exact At.keepB ha h4.size (h4.block b (by simp; omega) ha.hi)
theorem Far.vi {B : Nat} {l : Ly} {s : St} {W w' W2 : World} {y : Dv} (h : Far B l s W w' W2) (hv : Vi w' (vx l) y) (hb : ∀ b, DBlk y b → DBlk l.x b ∨ W.heap.size ≤ b) : Vi W2 (vx l) y := by
  obtain ⟨q, W0, h0, h1, h2, h3, h4⟩ := h
  refine ⟨hv.di.keepB h4.size fun b hd => h4.block b ?_ (hv.di.blk hd), hv.out⟩
  simp only [List.mem_cons, List.not_mem_nil, or_false]
  rcases hb b hd with h5 | h5
  · have := h0.im.di.di.blk h5; omega
  · omega
theorem Far.row {B lo c : Nat} {l : Ly} {s : St} {W w' W2 : World} {a : Option Addr} {L : List Ar} (h : Far B l s W w' W2) (hr : ARow lo a c L w') (hb : ∀ q, a = some q → W.heap.size ≤ q.block) : ARow lo a c L W2 := by
  obtain ⟨q, W0, h0, h1, h2, h3, h4⟩ := h
  rcases hr with hr | ⟨g, e1, e2, e3, e4, e5, e6⟩
  · exact Or.inl hr
  · have hg := hb _ e1
    have hkg : W2.heap[g]? = w'.heap[g]? := h4.block g (by simp; simp at hg; omega) e3
    exact Or.inr ⟨g, e1, e2, Nat.lt_of_lt_of_le e3 h4.size, e4, e5, fun j hj => (e6 j hj).eq (fun i => World.cell?_of_block (w := w') (a := ⟨g, i, none⟩) hkg)⟩
/-- what a plan's function does, called later: another block may have changed -/
def DoOK (B : Nat) (W w' : World) (l : Ly) (s s' : St) (dv : Value) : Prop :=
  (dv = .nilFunc ∧ s' = s) ∨ ∃ k caps, dv = .func (.func k) #[] caps ∧ (∀ args w, (callFunc k args).run Tryz.prog w = .ok (.enter k args) w) ∧ ∀ W2, Far B l s W w' W2 → Calls Tryz.prog k caps W2 fun e w3 => ∃ x' ar' hs', e = .returned (.tuple #[]) ∧ Mm B w3 { l with x := x', ar := ar', hs := hs' } s' ∧ Vk (vs l) W2 w3
def PlanP (B : Nat) (W : World) (l : Ly) (s : St) (r : Res) (s' : St) (e : Ending) (w' : World) : Prop :=
  ∃ dv, e = .returned (.agg #[.int .i64 r.er, .int .i64 r.n, .string r.dat, dv]) ∧ Below W.heap.size W w' ∧ DoOK B W w' l s s' dv
def badR (e : Int) : Res := ⟨e, 0, ⟨#[]⟩⟩
theorem At.four {W : World} {b : Nat} {a0 a1 a2 a3 : Value} (h : At W b [a0, a1, a2, a3]) : (W.cell? ⟨b, 0, none⟩ = some a0 ∧ W.cell? ⟨b, 1, none⟩ = some a1 ∧ W.cell? ⟨b, 2, none⟩ = some a2 ∧ W.cell? ⟨b, 3, none⟩ = some a3) ∧ (W.frozen? ⟨b, 0, none⟩ = false ∧ W.frozen? ⟨b, 1, none⟩ = false ∧ W.frozen? ⟨b, 2, none⟩ = false ∧ W.frozen? ⟨b, 3, none⟩ = false) ∧ b < W.heap.size :=
  ⟨⟨h.cell 0 _ rfl, h.cell 1 _ rfl, h.cell 2 _ rfl, h.cell 3 _ rfl⟩, ⟨h.free 0 (by simp), h.free 1 (by simp), h.free 2 (by simp), h.free 3 (by simp)⟩, h.hi⟩
theorem At.one {W : World} {b : Nat} {a0 : Value} (h : At W b [a0]) : W.cell? ⟨b, 0, none⟩ = some a0 ∧ W.frozen? ⟨b, 0, none⟩ = false ∧ b < W.heap.size := ⟨h.cell 0 _ rfl, h.free 0 (by simp), h.hi⟩
theorem Vi.sets {V : List Nat} {x : Dv} {D : Nat} (hD : D ∈ V) : ∀ (us : List Value) (o : Nat) {W : World}, Vi W V x → Vi (W.setCells D o us) V x
  | [], _, _, h => h
  | u :: us, o, _, h => Vi.sets hD us (o + 1) (h.set hD o u)
section
variable {B : Nat} {W1 w2 : World} {l : Ly} {s : St} {y : Dv}
theorem dy_after (hb : Below W1.heap.size W1 w2) (ha : DAns W1.drew l.x w2 y) (o : Obj) : DAns W1 l.x (w2.alloc o) y := ⟨ha.di.below ((Below.refl _ _).alloc (Nat.le_refl _) o), ha.blk⟩
theorem dsets {W : World} {D : Nat} (us : List Value) (h : DIn W y) (hD : ∀ b, DBlk y b → b ≠ D) : DIn (W.setCells D 0 us) y :=
  (Vi.sets (V := [D]) (by simp) us 0 ⟨h, fun b hb hm => hD b hb (by simpa using hm)⟩).di
theorem dy_before {zs : List Value} {T : TypeId} (h : Mm B W1 l s) (ha : DAns (W1.alloc (.cells zs.toArray T)).drew l.x w2 y) (us : List Value) : DAns W1 l.x (w2.setCells W1.heap.size 0 us) y := by
  have hk : ∀ b, DBlk y b → DBlk l.x b ∨ W1.heap.size + 1 ≤ b := fun b hb => by
    rcases ha.blk b hb with h1 | h1
    · exact Or.inl h1
    · exact Or.inr (by have e : (W1.alloc (.cells zs.toArray T)).drew.heap.size = W1.heap.size + 1 := Des.alloc_size _ _
                       omega)
  refine ⟨dsets us ha.di fun b hb => ?_, fun b hb => (hk b hb).imp id (by omega)⟩
  rcases hk b hb with h1 | h1
  · have := h.im.di.di.blk h1; omega
  · omega
theorem dn_vi {W wx : World} {R : Nat} (hm : Mm B W l s) (hR : W.heap.size ≤ R) (hR1 : R < W1.heap.size) (ha : DAns W1 l.x wx y) (us : List Value) : Vi (wx.setCells R 0 us) (vx l) y := by
  refine ⟨dsets us ha.di fun b hb => ?_, fun b hb hv => ?_⟩
  · rcases ha.blk b hb with h1 | h1
    · have := hm.im.di.di.blk h1; omega
    · omega
  · rcases ha.blk b hb with h1 | h1
    · exact hm.im.di.out b h1 hv
    · have := hm.hix b hv; omega
end
def d2 (y : Dv) : List Value := [.slice y.oa y.o.length y.oc, .slice y.ta y.t.length y.tc]
set_option maxHeartbeats 2000000 in
theorem clo88 (B : Nat) (l : Ly) (s : St) (p : Int) (o : Opr) (x : Ev) (y : Dv) (X T : Nat) (W : World) (h : Mm B W l s) (hT : At W T (stepC l.M p o x)) (hX : At W X (d2 y)) (hy : Vi W (vx l) y) :
    Calls Tryz.prog 88 #[.pointer (some ⟨X, 0, none⟩), .pointer (some ⟨T, 0, none⟩)] W fun e w3 => ∃ x' ar' hs', e = .returned (.tuple #[]) ∧ Mm B w3 { l with x := x', ar := ar', hs := hs' } { s with d := y.pl } ∧ Vk (vs l) W w3 := by
  have t0 := hT.cell 0 (.pointer (some ⟨l.M, 0, none⟩)) rfl
  have x0 := hX.cell 0 (.slice y.oa y.o.length y.oc) rfl
  have x1 := hX.cell 1 (.slice y.ta y.t.length y.tc) rfl
  obtain ⟨mO, mP⟩ := h.cO
  have z0 := h.m.free 24 (by simp [mC])
  have z1 := h.m.free 25 (by simp [mC])
  have z2 := h.m.hi
  have HP := Lib.hid (h.putO y hy)
  have HV : Hid (Vk (vs l) W ((W.setCell ⟨l.M, 24, none⟩ (.slice y.oa y.o.length y.oc)).setCell ⟨l.M, 25, none⟩ (.slice y.ta y.t.length y.tc))) := Lib.hid ((Vk.set _ _ _ _ (mvs l).1).trans (Vk.set _ _ _ _ (mvs l).1))
  clear h hT hX hy
  go_enter Tryz.func88, Tryz.ntmps88
  go_wp2_with fail
  go_end0
  exact ⟨y, l.ar, l.hs, rfl, HP.out, HV.out⟩
set_option maxHeartbeats 2000000 in
theorem clo90 (B : Nat) (l : Ly) (s : St) (p : Int) (o : Opr) (x : Ev) (y : Dv) (X T : Nat) (W : World) (h : Mm B W l s) (hT : At W T (stepC l.M p o x)) (hX : At W X (d2 y)) (hy : Vi W (vx l) y) :
    Calls Tryz.prog 90 #[.pointer (some ⟨X, 0, none⟩), .pointer (some ⟨T, 0, none⟩)] W fun e w3 => ∃ x' ar' hs', e = .returned (.tuple #[]) ∧ Mm B w3 { l with x := x', ar := ar', hs := hs' } { s with d := y.pl } ∧ Vk (vs l) W w3 := by
  have t0 := hT.cell 0 (.pointer (some ⟨l.M, 0, none⟩)) rfl
  have x0 := hX.cell 0 (.slice y.oa y.o.length y.oc) rfl
  have x1 := hX.cell 1 (.slice y.ta y.t.length y.tc) rfl
  obtain ⟨mO, mP⟩ := h.cO
  have z0 := h.m.free 24 (by simp [mC])
  have z1 := h.m.free 25 (by simp [mC])
  have z2 := h.m.hi
  have HP := Lib.hid (h.putO y hy)
  have HV : Hid (Vk (vs l) W ((W.setCell ⟨l.M, 24, none⟩ (.slice y.oa y.o.length y.oc)).setCell ⟨l.M, 25, none⟩ (.slice y.ta y.t.length y.tc))) := Lib.hid ((Vk.set _ _ _ _ (mvs l).1).trans (Vk.set _ _ _ _ (mvs l).1))
  clear h hT hX hy
  go_enter Tryz.func90, Tryz.ntmps90
  go_wp2_with fail
  go_end0
  exact ⟨y, l.ar, l.hs, rfl, HP.out, HV.out⟩
set_option maxHeartbeats 2000000 in
theorem clo114 (B : Nat) (l : Ly) (s : St) (p : Int) (o : Opr) (x : Ev) (y : Dv) (X T : Nat) (W : World) (h : Mm B W l s) (hT : At W T (stepC l.M p o x)) (hX : At W X (d2 y)) (hy : Vi W (vx l) y) :
    Calls Tryz.prog 114 #[.pointer (some ⟨X, 0, none⟩), .pointer (some ⟨T, 0, none⟩)] W fun e w3 => ∃ x' ar' hs', e = .returned (.tuple #[]) ∧ Mm B w3 { l with x := x', ar := ar', hs := hs' } { s with d := y.pl } ∧ Vk (vs l) W w3 := by
  have t0 := hT.cell 0 (.pointer (some ⟨l.M, 0, none⟩)) rfl
  have x0 := hX.cell 0 (.slice y.oa y.o.length y.oc) rfl
  have x1 := hX.cell 1 (.slice y.ta y.t.length y.tc) rfl
  obtain ⟨mO, mP⟩ := h.cO
  have z0 := h.m.free 24 (by simp [mC])
  have z1 := h.m.free 25 (by simp [mC])
  have z2 := h.m.hi
  have HP := Lib.hid (h.putO y hy)
  have HV : Hid (Vk (vs l) W ((W.setCell ⟨l.M, 24, none⟩ (.slice y.oa y.o.length y.oc)).setCell ⟨l.M, 25, none⟩ (.slice y.ta y.t.length y.tc))) := Lib.hid ((Vk.set _ _ _ _ (mvs l).1).trans (Vk.set _ _ _ _ (mvs l).1))
  clear h hT hX hy
  go_enter Tryz.func114, Tryz.ntmps114
  go_wp2_with fail
  go_end0
  exact ⟨y, l.ar, l.hs, rfl, HP.out, HV.out⟩

end Go.Proofs.YtimhaidiclbnhaaGreat.Ver
/- Layer 46: the closures that update and change. -/
set_option linter.unusedSimpArgs false
set_option linter.unusedVariables false
set_option maxRecDepth 100000
namespace Go.Proofs.YtimhaidiclbnhaaGreat.Ver
open Go.ChangeShapes Go.WideShapes Go.ChangeAt Go.RowKit
open Des (Dv De Dn DIn DBlk DAns Vi At RowOf ints DSz)
open Ara (Ar ARow)
open Con (StrRow)

theorem size122 : (Tryz.prog.info? 122).map (·.size) = some 20 := by kernel_rfl
theorem Vk.at {V : List Nat} {W W' : World} (h : Vk V W W') {b : Nat} {cs : List Value} (ha : At W b cs) (hb : b ∉ V) : At W' b cs := At.keepB ha h.size (h.block b hb ha.hi)
set_option maxHeartbeats 4000000 in
theorem clo93 (B : Nat) (l : Ly) (s : St) (p : Int) (o : Opr) (x : Ev) (n : Int) (D : Dn) (T N K : Nat) (W : World) (h : Mm B W l s) (hr : Des.Rt s.d) (hT : At W T (stepC l.M p o x)) (hN : At W N [.int .i64 n]) (hK : At W K (dnL D)) :
    Calls Tryz.prog 93 #[.pointer (some ⟨T, 0, none⟩), .pointer (some ⟨N, 0, none⟩), .pointer (some ⟨K, 0, none⟩)] W fun e w3 => ∃ x' ar' hs', e = .returned (.tuple #[]) ∧ Mm B w3 { l with x := x', ar := ar', hs := hs' } { s with d := Des.updD s.d n D.f D.cu } ∧ Vk (vs l) W w3 := by
  have HU := Lib.hid (update_any B l s p o x n D W h hr)
  obtain ⟨cs, hcs⟩ : ∃ cs, cs = stepC l.M p o x := ⟨_, rfl⟩
  have HCS := Lib.hid hcs
  unfold stepV at HU
  rw [← hcs] at hT HU
  have HT := Lib.hid hT
  have n0 := hN.cell 0 _ rfl
  obtain ⟨⟨d0, d1, d2, d3, d4⟩, _, _⟩ := Des.At.five hK
  clear h hT hN hK hcs
  go_enter Tryz.func93, Tryz.ntmps93
  go_wp2_with (with_reducible refine Des.hold_load 122 rfl ?_)
  refine Des.load_ato 0 HT.out.r Tryz.underlying122 rfl (by rw [HCS.out]; exact size122) rfl rfl rfl ?_
  go_wp2_with fail
  refine HU.out.mono ?_
  rintro e w' ⟨y, rfl, hpl, hm, hv⟩
  have HM := Lib.hid hm
  have HV := Lib.hid hv
  have HP := Lib.hid hpl
  clear hm hv hpl HU
  go_wp2_with fail
  go_end0
  exact ⟨y, l.ar, l.hs, rfl, by rw [← HP.out]; exact HM.out, HV.out⟩
set_option maxHeartbeats 4000000 in
theorem clo99 (B : Nat) (l : Ly) (s : St) (p : Int) (o : Opr) (x : Ev) (n : Int) (D : Dn) (T N K : Nat) (W : World) (h : Mm B W l s) (hr : Des.Rt s.d) (hT : At W T (stepC l.M p o x)) (hN : At W N [.int .i64 n]) (hK : At W K (dnL D)) :
    Calls Tryz.prog 99 #[.pointer (some ⟨T, 0, none⟩), .pointer (some ⟨N, 0, none⟩), .pointer (some ⟨K, 0, none⟩)] W fun e w3 => ∃ x' ar' hs', e = .returned (.tuple #[]) ∧ Mm B w3 { l with x := x', ar := ar', hs := hs' } { s with d := Des.updD s.d n D.f D.cu } ∧ Vk (vs l) W w3 := by
  have HU := Lib.hid (update_any B l s p o x n D W h hr)
  obtain ⟨cs, hcs⟩ : ∃ cs, cs = stepC l.M p o x := ⟨_, rfl⟩
  have HCS := Lib.hid hcs
  unfold stepV at HU
  rw [← hcs] at hT HU
  have HT := Lib.hid hT
  have n0 := hN.cell 0 _ rfl
  obtain ⟨⟨d0, d1, d2, d3, d4⟩, _, _⟩ := Des.At.five hK
  clear h hT hN hK hcs
  go_enter Tryz.func99, Tryz.ntmps99
  go_wp2_with (with_reducible refine Des.hold_load 122 rfl ?_)
  refine Des.load_ato 0 HT.out.r Tryz.underlying122 rfl (by rw [HCS.out]; exact size122) rfl rfl rfl ?_
  go_wp2_with fail
  refine HU.out.mono ?_
  rintro e w' ⟨y, rfl, hpl, hm, hv⟩
  have HM := Lib.hid hm
  have HV := Lib.hid hv
  have HP := Lib.hid hpl
  clear hm hv hpl HU
  go_wp2_with fail
  go_end0
  exact ⟨y, l.ar, l.hs, rfl, by rw [← HP.out]; exact HM.out, HV.out⟩
set_option maxHeartbeats 4000000 in
theorem clo101 (B : Nat) (l : Ly) (s : St) (p : Int) (o : Opr) (x : Ev) (D : Dn) (f : Nat) (d : ByteArray) (T K O : Nat) (W : World) (h : Mm B W l s) (hf : f < s.fs.length) (hfh : f < s.h.length) (hn : s.fs.length ≤ 1000) (hl : (s.h.getD f ([], 0)).1.length ≤ 10000) (hD : D.fi = (f : Int)) (hT : At W T (stepC l.M p o x)) (hK : At W K (dnL D)) (hO : At W O [.string d]) :
    Calls Tryz.prog 101 #[.pointer (some ⟨T, 0, none⟩), .pointer (some ⟨K, 0, none⟩), .pointer (some ⟨O, 0, none⟩)] W fun e w3 => ∃ x' ar' hs', e = .returned (.tuple #[]) ∧ Mm B w3 { l with x := x', ar := ar', hs := hs' } (chS s f d) ∧ Vk (vs l) W w3 := by
  have HU := Lib.hid (change_any B l s p o x f d W h hf hfh hn hl)
  obtain ⟨cs, hcs⟩ : ∃ cs, cs = stepC l.M p o x := ⟨_, rfl⟩
  have HCS := Lib.hid hcs
  unfold stepV at HU
  rw [← hcs] at hT HU
  have HT := Lib.hid hT
  have o0 := hO.cell 0 _ rfl
  obtain ⟨⟨d0, d1, d2, d3, d4⟩, _, _⟩ := Des.At.five hK
  rw [hD] at d0
  clear h hT hO hK hcs hD hf hfh hn hl
  generalize chS s f d = s9 at *
  go_enter Tryz.func101, Tryz.ntmps101
  go_wp2_with (with_reducible refine Des.hold_load 122 rfl ?_)
  refine Des.load_ato 0 HT.out.r Tryz.underlying122 rfl (by rw [HCS.out]; exact size122) rfl rfl rfl ?_
  go_wp2_with fail
  refine HU.out.mono ?_
  rintro e w' ⟨hs, rfl, hm, hv⟩
  have HM := Lib.hid hm
  have HV := Lib.hid hv
  clear hm hv HU
  go_wp2_with fail
  go_end0
  exact ⟨l.x, l.ar, hs, rfl, HM.out, HV.out⟩
set_option maxHeartbeats 4000000 in
theorem clo103 (B : Nat) (l : Ly) (s : St) (p : Int) (o : Opr) (x : Ev) (D : Dn) (f : Nat) (d : ByteArray) (T K O : Nat) (W : World) (h : Mm B W l s) (hf : f < s.fs.length) (hfh : f < s.h.length) (hn : s.fs.length ≤ 1000) (hl : (s.h.getD f ([], 0)).1.length ≤ 10000) (hD : D.fi = (f : Int)) (hT : At W T (stepC l.M p o x)) (hK : At W K (dnL D)) (hO : At W O [.string d]) :
    Calls Tryz.prog 103 #[.pointer (some ⟨T, 0, none⟩), .pointer (some ⟨K, 0, none⟩), .pointer (some ⟨O, 0, none⟩)] W fun e w3 => ∃ x' ar' hs', e = .returned (.tuple #[]) ∧ Mm B w3 { l with x := x', ar := ar', hs := hs' } (chS s f d) ∧ Vk (vs l) W w3 := by
  have HU := Lib.hid (change_any B l s p o x f d W h hf hfh hn hl)
  obtain ⟨cs, hcs⟩ : ∃ cs, cs = stepC l.M p o x := ⟨_, rfl⟩
  have HCS := Lib.hid hcs
  unfold stepV at HU
  rw [← hcs] at hT HU
  have HT := Lib.hid hT
  have o0 := hO.cell 0 _ rfl
  obtain ⟨⟨d0, d1, d2, d3, d4⟩, _, _⟩ := Des.At.five hK
  rw [hD] at d0
  clear h hT hO hK hcs hD hf hfh hn hl
  generalize chS s f d = s9 at *
  go_enter Tryz.func103, Tryz.ntmps103
  go_wp2_with (with_reducible refine Des.hold_load 122 rfl ?_)
  refine Des.load_ato 0 HT.out.r Tryz.underlying122 rfl (by rw [HCS.out]; exact size122) rfl rfl rfl ?_
  go_wp2_with fail
  refine HU.out.mono ?_
  rintro e w' ⟨hs, rfl, hm, hv⟩
  have HM := Lib.hid hm
  have HV := Lib.hid hv
  clear hm hv HU
  go_wp2_with fail
  go_end0
  exact ⟨l.x, l.ar, hs, rfl, HM.out, HV.out⟩
set_option maxHeartbeats 4000000 in
theorem clo112 (B : Nat) (l : Ly) (s : St) (p : Int) (o : Opr) (x : Ev) (D : Ar) (f : Nat) (d : ByteArray) (T K O : Nat) (W : World) (h : Mm B W l s) (hf : f < s.fs.length) (hfh : f < s.h.length) (hn : s.fs.length ≤ 1000) (hl : (s.h.getD f ([], 0)).1.length ≤ 10000) (hD : D.fi = (f : Int)) (hT : At W T (stepC l.M p o x)) (hK : At W K (Ara.Ar.cells D)) (hO : At W O [.string d]) :
    Calls Tryz.prog 112 #[.pointer (some ⟨T, 0, none⟩), .pointer (some ⟨K, 0, none⟩), .pointer (some ⟨O, 0, none⟩)] W fun e w3 => ∃ x' ar' hs', e = .returned (.tuple #[]) ∧ Mm B w3 { l with x := x', ar := ar', hs := hs' } (chS s f d) ∧ Vk (vs l) W w3 := by
  have HU := Lib.hid (change_any B l s p o x f d W h hf hfh hn hl)
  obtain ⟨cs, hcs⟩ : ∃ cs, cs = stepC l.M p o x := ⟨_, rfl⟩
  have HCS := Lib.hid hcs
  unfold stepV at HU
  rw [← hcs] at hT HU
  have HT := Lib.hid hT
  have o0 := hO.cell 0 _ rfl
  have d2 := hK.cell 2 (.int .i64 D.fi) rfl
  rw [hD] at d2
  clear h hT hO hK hcs hD hf hfh hn hl
  generalize chS s f d = s9 at *
  go_enter Tryz.func112, Tryz.ntmps112
  go_wp2_with (with_reducible refine Des.hold_load 122 rfl ?_)
  refine Des.load_ato 0 HT.out.r Tryz.underlying122 rfl (by rw [HCS.out]; exact size122) rfl rfl rfl ?_
  go_wp2_with fail
  refine HU.out.mono ?_
  rintro e w' ⟨hs, rfl, hm, hv⟩
  have HM := Lib.hid hm
  have HV := Lib.hid hv
  clear hm hv HU
  go_wp2_with fail
  go_end0
  exact ⟨l.x, l.ar, hs, rfl, HM.out, HV.out⟩
set_option maxHeartbeats 8000000 in
theorem clo96 (B : Nat) (l : Ly) (s : St) (p : Int) (o : Opr) (x : Ev) (n : Int) (D : Dn) (f : Nat) (d : ByteArray) (T N K O : Nat) (W : World) (h : Mm B W l s) (hr : Des.Rt s.d) (hf : f < s.fs.length) (hfh : f < s.h.length) (hn : s.fs.length ≤ 1000) (hl : (s.h.getD f ([], 0)).1.length ≤ 10000) (hD : D.fi = (f : Int)) (hT : At W T (stepC l.M p o x)) (hN : At W N [.int .i64 n]) (hK : At W K (dnL D)) (hO : At W O [.string d]) (vT : T ∉ vs l) (vK : K ∉ vs l) (vO : O ∉ vs l) :
    Calls Tryz.prog 96 #[.pointer (some ⟨T, 0, none⟩), .pointer (some ⟨N, 0, none⟩), .pointer (some ⟨K, 0, none⟩), .pointer (some ⟨O, 0, none⟩)] W fun e w3 => ∃ x' ar' hs', e = .returned (.tuple #[]) ∧ Mm B w3 { l with x := x', ar := ar', hs := hs' } (chS { s with d := Des.updD s.d n D.f D.cu } f d) ∧ Vk (vs l) W w3 := by
  have HU := Lib.hid (update_any B l s p o x n D W h hr)
  have HC : Hid (∀ (y : Dv) W', Mm B W' { l with x := y } { s with d := y.pl } → Calls Tryz.prog 97 #[stepV l.M p o x, .int .i64 f, .string d] W' fun e w' => ∃ hs : List Sl, e = .returned (.tuple #[]) ∧ Mm B w' { l with x := y, hs := hs } (chS { s with d := y.pl } f d) ∧ Vk (vs l) W' w') := Lib.hid fun y W' hm => change_any B { l with x := y } { s with d := y.pl } p o x f d W' hm hf hfh hn hl
  obtain ⟨cs, hcs⟩ : ∃ cs, cs = stepC l.M p o x := ⟨_, rfl⟩
  have HCS := Lib.hid hcs
  unfold stepV at HU HC
  rw [← hcs] at hT HU HC
  have HT := Lib.hid hT
  have HK := Lib.hid hK
  have HO := Lib.hid hO
  have n0 := hN.cell 0 _ rfl
  obtain ⟨⟨d0, d1, d2, d3, d4⟩, _, _⟩ := Des.At.five hK
  clear h hT hN hK hO hcs hf hfh hn hl
  have HD := Lib.hid hD
  clear hD
  go_enter Tryz.func96, Tryz.ntmps96
  go_wp2_with (with_reducible refine Des.hold_load 122 rfl ?_)
  refine Des.load_ato 0 HT.out.r Tryz.underlying122 rfl (by rw [HCS.out]; exact size122) rfl rfl rfl ?_
  go_wp2_with fail
  refine HU.out.mono ?_
  rintro e w' ⟨y, rfl, hpl, hm, hv⟩
  have HM := Lib.hid hm
  have HV := Lib.hid hv
  have HP := Lib.hid hpl
  replace HT := Lib.hid (HV.out.at HT.out vT)
  replace HK := Lib.hid (HV.out.at HK.out vK)
  replace HO := Lib.hid (HV.out.at HO.out vO)
  clear hm hv hpl HU d0 d1 d2 d3 d4 n0
  have o0 := HO.out.cell 0 _ rfl
  have d0 : w'.cell? ⟨K, 0, none⟩ = some (.int .i64 (f : Int)) := by rw [← HD.out]; exact HK.out.cell 0 _ rfl
  go_wp2_with (with_reducible refine Des.hold_load 122 rfl ?_)
  refine Des.load_ato 0 HT.out.r Tryz.underlying122 rfl (by rw [HCS.out]; exact size122) rfl rfl rfl ?_
  go_wp2_with fail
  refine (HC.out y _ HM.out).mono ?_
  rintro e w'' ⟨hs, rfl, hm2, hv2⟩
  have HM2 := Lib.hid hm2
  have HV2 := Lib.hid hv2
  clear hm2 hv2 HC
  go_wp2_with fail
  go_end0
  exact ⟨y, l.ar, hs, rfl, by rw [← HP.out]; exact HM2.out, HV.out.trans HV2.out⟩
end Go.Proofs.YtimhaidiclbnhaaGreat.Ver
