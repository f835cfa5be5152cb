/- Layer 46, shared texts of this seat, part 20. -/
import Derived.Test.YtimhaidiclbnhaaGreatM19
/- Layer 46: the frame of the handlers, lookup. -/
set_option linter.unusedSimpArgs false
set_option linter.unusedVariables false
set_option maxRecDepth 100000
namespace Go.Proofs.YtimhaidiclbnhaaGreat.Ver
open Go.ChangeShapes Go.WideShapes Go.ChangeAt Go.RowKit
open Des (Dv De Dn DIn DBlk DAns Vi At RowOf ints DSz numE numV lookV)

def stepC (M : Nat) (p : Int) (o : Opr) (x : Ev) : List Value :=
  [.pointer (some ⟨M, 0, none⟩), .int .i64 p, .int .i64 o.kd, .int .i64 o.fd, .int .i64 o.fi, .int .i64 o.fl, .int .i64 o.off, .int .i64 o.len, .int .i64 o.pg, .string o.dat, .bool o.wr, .int .i64 x.tm, .int .i64 x.pr, .int .i64 x.ix, .int .i64 x.fi, .int .i64 x.at', .int .i64 x.bg, .int .i64 x.er, .int .i64 x.n, .string x.dat]
def stepV (M : Nat) (p : Int) (o : Opr) (x : Ev) : Value := .agg (stepC M p o x).toArray
/-- the box of a step, and the variable of the result -/
structure Bx2 (W0 W : World) (T R : Nat) (cs rs : List Value) : Prop where
  bel : Below W0.heap.size W0 W
  t : At W T cs
  r : At W R rs
  lo : W0.heap.size ≤ T
  tr : T < R
theorem Bx2.start (W : World) (cs rs : List Value) (ct rt : TypeId) : Bx2 W ((W.alloc (.cells cs.toArray ct)).alloc (.cells rs.toArray rt)) W.heap.size (W.heap.size + 1) cs rs :=
  ⟨((Below.refl W.heap.size W).alloc (Nat.le_refl _) _).alloc (by rw [Des.alloc_size]; omega) _, (At.new W cs ct).alloc _, (At.new (W.alloc (.cells cs.toArray ct)) rs rt).cast (by rw [Des.alloc_size]), Nat.le_refl _, by omega⟩
theorem Bx2.below {W0 W W' : World} {T R : Nat} {cs rs : List Value} (h : Bx2 W0 W T R cs rs) (hb : Below W.heap.size W W') : Bx2 W0 W' T R cs rs :=
  ⟨h.bel.trans (hb.mono h.bel.size), h.t.below hb h.t.hi, h.r.below hb h.r.hi, h.lo, h.tr⟩
theorem below_setCells {B b : Nat} {a w : World} (h : Below B a w) (hb : B ≤ b) (vs : List Value) (o : Nat) : Below B a (w.setCells b o vs) := Des.below_cells hb vs o h
theorem Bx2.putR {W0 W : World} {T R : Nat} {cs rs : List Value} (h : Bx2 W0 W T R cs rs) (vs : List Value) (hl : vs.length = rs.length) : Bx2 W0 (W.setCells R 0 vs) T R cs vs :=
  ⟨below_setCells h.bel (by have := h.lo; have := h.tr; omega) vs 0, h.t.apart (by have := h.tr; omega) 0 vs, h.r.store vs hl, h.lo, h.tr⟩
/-- a new variable with values -/
structure Nb (W0 W : World) (D : Nat) (vs : List Value) : Prop where
  at' : At W D vs
  bel : Below W0.heap.size W0 W
  lo : W0.heap.size ≤ D
theorem Nb.below {W0 W W' : World} {D : Nat} {vs : List Value} (h : Nb W0 W D vs) (hb : Below W.heap.size W W') : Nb W0 W' D vs :=
  ⟨h.at'.below hb h.at'.hi, h.bel.trans (hb.mono h.bel.size), h.lo⟩
theorem Nb.after {W0 w2 : World} (hb : Below W0.heap.size W0 w2) (vs : List Value) (T : TypeId) : Nb W0 (w2.alloc (.cells vs.toArray T)) w2.heap.size vs :=
  ⟨At.new w2 vs T, hb.alloc hb.size _, hb.size⟩
theorem Nb.before {W0 w2 : World} {zs : List Value} {T : TypeId} (hb : Below (W0.alloc (.cells zs.toArray T)).heap.size (W0.alloc (.cells zs.toArray T)) w2) (vs : List Value) (hl : vs.length = zs.length) : Nb W0 (w2.setCells W0.heap.size 0 vs) W0.heap.size vs :=
  ⟨((At.new W0 zs T).below hb (by rw [Des.alloc_size]; omega)).store vs hl, below_setCells (((Below.refl _ _).alloc (Nat.le_refl _) _).trans (hb.mono (by rw [Des.alloc_size]; omega))) (Nat.le_refl _) vs 0, Nat.le_refl _⟩
def andV (a b : Int) : Int := bits BinOp.and IntKind.i64 a b
def lkE (s : St) (p f m : Int) : Int := if numE s.d p f ≠ 0 then numE s.d p f else if (s.fs.length : Int) ≤ (lookV s.d p f).fi then 4 else if andV (lookV s.d p f).fl m ≠ m then 13 else 0
def dnL (a : Dn) : List Value := [.int .i64 a.fi, .int .i64 a.fl, .int .i64 a.f, .int .i64 a.cu, .int .i64 a.rf]
theorem Mm.dz {B : Nat} {W : World} {l : Ly} {s : St} (h : Mm B W l s) (hr : Des.Rt s.d) : DSz l.x := (Des.check_sz (Des.rt_check hr)).sz h.im.dp
section
variable {B : Nat} {W : World} {l : Ly} {s : St}
theorem Mm.cO (h : Mm B W l s) : W.cell? ⟨l.M, 24, none⟩ = some (.slice l.x.oa l.x.o.length l.x.oc) ∧ W.cell? ⟨l.M, 25, none⟩ = some (.slice l.x.ta l.x.t.length l.x.tc) := ⟨h.m.cell 24 _ rfl, h.m.cell 25 _ rfl⟩
theorem Mm.cF (h : Mm B W l s) : W.cell? ⟨l.M, 21, none⟩ = some (.slice (some ⟨l.F, 0, none⟩) s.fs.length s.fs.length) := h.m.cell 21 _ rfl
theorem Mm.cA (h : Mm B W l s) : W.cell? ⟨l.M, 22, none⟩ = some (.slice (some ⟨l.A, 0, none⟩) s.fs.length s.fs.length) := h.m.cell 22 _ rfl
theorem Mm.cL (h : Mm B W l s) : W.cell? ⟨l.M, 23, none⟩ = some (.slice (some ⟨l.L, 0, none⟩) s.fs.length s.fs.length) := h.m.cell 23 _ rfl
theorem Mm.cR (h : Mm B W l s) : W.cell? ⟨l.M, 26, none⟩ = some (.slice (some ⟨l.R, 0, none⟩) s.scr.length s.scr.length) := h.m.cell 26 _ rfl
theorem Mm.cH (h : Mm B W l s) : W.cell? ⟨l.M, 27, none⟩ = some (.slice (some ⟨l.H, 0, none⟩) s.fs.length s.fs.length) := h.m.cell 27 _ rfl
theorem Mm.cS (h : Mm B W l s) : W.cell? ⟨l.M, 28, none⟩ = some (.slice (some ⟨l.S, 0, none⟩) s.fs.length s.fs.length) := h.m.cell 28 _ rfl
theorem Mm.cN (h : Mm B W l s) : W.cell? ⟨l.M, 29, none⟩ = some (.slice (some ⟨l.N, 0, none⟩) s.scr.length s.scr.length) := h.m.cell 29 _ rfl
theorem Mm.cB (h : Mm B W l s) : W.cell? ⟨l.M, 30, none⟩ = some (.slice (some ⟨l.B, 0, none⟩) s.scr.length s.scr.length) := h.m.cell 30 _ rfl
theorem Mm.cT (h : Mm B W l s) : W.cell? ⟨l.M, 31, none⟩ = some (.int .i64 s.tm) := h.m.cell 31 _ rfl
end
set_option maxHeartbeats 8000000 in
theorem lookup_any' (B : Nat) (l : Ly) (s : St) (p : Int) (o : Opr) (x : Ev) (m : Int) (W : World) (h : Mm B W l s) (hr : Des.Rt s.d) (hn : s.fs.length ≤ 1000) :
    Calls Tryz.prog 91 #[stepV l.M p o x, .int .i64 m] W (RetW (.tuple #[.int .i64 (numV s.d p o.fd), .agg #[.int .i64 (lookV s.d p o.fd).fi, .int .i64 (lookV s.d p o.fd).fl, .int .i64 (lookV s.d p o.fd).f, .int .i64 (lookV s.d p o.fd).cu, .int .i64 (lookV s.d p o.fd).rf], .int .i64 (lkE s p o.fd m)]) W) := by
  have HLK : Hid (∀ W', Below W.heap.size W W' → Calls Tryz.prog 123 #[.agg #[.slice l.x.oa l.x.o.length l.x.oc, .slice l.x.ta l.x.t.length l.x.tc], .int .i64 p, .int .i64 o.fd] W' (RetW (.tuple #[.int .i64 (numV s.d p o.fd), .agg #[.int .i64 (lookV s.d p o.fd).fi, .int .i64 (lookV s.d p o.fd).fl, .int .i64 (lookV s.d p o.fd).f, .int .i64 (lookV s.d p o.fd).cu, .int .i64 (lookV s.d p o.fd).rf], .int .i64 (numE s.d p o.fd)]) W')) := Lib.hid fun W' hb => by
    have h1 := Des.lookup_any l.x p o.fd W' (h.below hb).im.di.di (h.dz hr)
    rw [h.im.dp] at h1
    exact h1
  have HM := Lib.hid h
  have HE : Hid (lkE s p o.fd m = if numE s.d p o.fd ≠ 0 then numE s.d p o.fd else if (s.fs.length : Int) ≤ (lookV s.d p o.fd).fi then 4 else if andV (lookV s.d p o.fd).fl m ≠ m then 13 else 0) := Lib.hid rfl
  have HX := Lib.hid (Bx2.start W (stepC l.M p o x) [.int .i64 0, .int .i64 0, .int .i64 0, .int .i64 0, .int .i64 0] 122 126)
  unfold stepV
  obtain ⟨cs, hcs⟩ : ∃ cs, cs = stepC l.M p o x := ⟨_, rfl⟩
  have HCS := Lib.hid hcs
  rw [← hcs] at HX ⊢
  clear hcs h
  generalize lkE s p o.fd m = le at *
  generalize numE s.d p o.fd = ne at *
  generalize numV s.d p o.fd = nv at *
  generalize lookV s.d p o.fd = D at *
  go_enter Tryz.func91, Tryz.ntmps91
  go_upto_region 1 with (fail)
  generalize World.alloc _ (Obj.cells #[.int .i64 0, .int .i64 0, .int .i64 0, .int .i64 0, .int .i64 0] 126) = W1 at *
  have HR1 : Hid (W.heap.size + 1 < W1.heap.size) := Lib.hid HX.out.r.hi
  go_cut [7, 8, 9] (fun s7 s8 s9 wx => ∃ K, s7 = .int .i64 nv ∧ s8 = .pointer (some ⟨K, 0, none⟩) ∧ s9 = .int .i64 ne ∧ Hid (Nb W1 wx K [.int .i64 D.fi, .int .i64 D.fl, .int .i64 D.f, .int .i64 D.cu, .int .i64 D.rf]))
  case first =>
    have HX0 := HX
    replace HX := Lib.hid (HX.out.below (Below.refl _ _).drew)
    have hT : W.heap.size < W1.heap.size := HX0.out.t.hi
    have hM : l.M < W1.heap.size := (HM.out.below HX0.out.bel).m.hi
    have e1 : ¬ W1.heap.size = W.heap.size := by omega
    have e2 : ¬ W.heap.size = W1.heap.size := by omega
    have e3 : ¬ W1.heap.size = l.M := by omega
    have e4 : ¬ l.M = W1.heap.size := by omega
    have yt0 := HX0.out.t.cell 0 (.pointer (some ⟨l.M, 0, none⟩)) (by rw [HCS.out]; rfl); have yt1 := HX0.out.t.cell 1 (.int .i64 p) (by rw [HCS.out]; rfl); have yt3 := HX0.out.t.cell 3 (.int .i64 o.fd) (by rw [HCS.out]; rfl); obtain ⟨ymO, ymP⟩ := (HM.out.below HX0.out.bel).cO
    have t0 := HX.out.t.cell 0 (.pointer (some ⟨l.M, 0, none⟩)) (by rw [HCS.out]; rfl); have t1 := HX.out.t.cell 1 (.int .i64 p) (by rw [HCS.out]; rfl); have t3 := HX.out.t.cell 3 (.int .i64 o.fd) (by rw [HCS.out]; rfl); obtain ⟨mO, mP⟩ := (HM.out.below HX.out.bel).cO
    go_region_held3 (fun w' => w'.cell? ⟨W.heap.size, 0, none⟩ = some (.pointer (some ⟨l.M, 0, none⟩)) ∧ w'.cell? ⟨W.heap.size, 1, none⟩ = some (.int .i64 p) ∧ w'.cell? ⟨W.heap.size, 3, none⟩ = some (.int .i64 o.fd) ∧ w'.cell? ⟨l.M, 24, none⟩ = some (.slice l.x.oa l.x.o.length l.x.oc) ∧ w'.cell? ⟨l.M, 25, none⟩ = some (.slice l.x.ta l.x.t.length l.x.tc)) (go_keep) (first | (go_at_call 123; refine (HLK.out _ (by first | exact HX.out.bel | exact (HX.out.below ((Below.refl _ _).alloc (Nat.le_refl _) _)).bel)).mono ?_; rintro e w2 ⟨rfl, hb⟩; (first | (have HA := Lib.hid hb; replace HX := Lib.hid (HX.out.below hb)) | (have HB := Lib.hid hb; obtain ⟨_, ⟨f0, f1, f2, f3, f4⟩, fh⟩ := Des.At.five (((At.new W1 [.int .i64 0, .int .i64 0, .int .i64 0, .int .i64 0, .int .i64 0] 126).drew).below hb (by show W1.heap.size < (W1.alloc _).heap.size; rw [Des.alloc_size]; omega)); replace HX := Lib.hid ((HX.out.below ((Below.refl _ _).alloc (Nat.le_refl _) _)).below hb))); clear hb t0 t1 t3 mO mP; have t0 := HX.out.t.cell 0 (.pointer (some ⟨l.M, 0, none⟩)) (by rw [HCS.out]; rfl); have t1 := HX.out.t.cell 1 (.int .i64 p) (by rw [HCS.out]; rfl); have t3 := HX.out.t.cell 3 (.int .i64 o.fd) (by rw [HCS.out]; rfl); obtain ⟨mO, mP⟩ := (HM.out.below HX.out.bel).cO))
    all_goals
      go_wp2_with fail
      go_meet
      first | exact ⟨_, rfl, rfl, rfl, Lib.hid (Nb.after ((Below.refl W1.heap.size W1).drew.trans HA.out) [.int .i64 D.fi, .int .i64 D.fl, .int .i64 D.f, .int .i64 D.cu, .int .i64 D.rf] 126)⟩ | exact ⟨_, rfl, rfl, rfl, Lib.hid (Nb.before (T := 126) (zs := [.int .i64 0, .int .i64 0, .int .i64 0, .int .i64 0, .int .i64 0]) ((Below.refl (W1.alloc _).heap.size (W1.alloc _)).drew.trans HB.out) [.int .i64 D.fi, .int .i64 D.fl, .int .i64 D.f, .int .i64 D.cu, .int .i64 D.rf] rfl)⟩
  case rest =>
  obtain ⟨K, rfl, rfl, rfl, HN⟩ := hcut
  replace HX := Lib.hid (HX.out.below HN.out.bel)
  go_upto_region 2 with (fail)
  go_cut [37] (fun v wx => v = .bool (decide (ne = 0 ∧ (s.fs.length : Int) ≤ D.fi)) ∧ Hid (Nb W1 wx K [.int .i64 D.fi, .int .i64 D.fl, .int .i64 D.f, .int .i64 D.cu, .int .i64 D.rf]) ∧ Hid (Bx2 W wx W.heap.size (W.heap.size + 1) cs [.int .i64 0, .int .i64 0, .int .i64 0, .int .i64 0, .int .i64 0]))
  case first =>
    obtain ⟨⟨n0, n1, n2, n3, n4⟩, _, _⟩ := Des.At.five HN.out.at'
    have t0 := HX.out.t.cell 0 (.pointer (some ⟨l.M, 0, none⟩)) (by rw [HCS.out]; rfl); have mF := (HM.out.below HX.out.bel).cF
    by_cases hz : ne = 0
    · subst hz
      by_cases hf : (s.fs.length : Int) ≤ D.fi
      · go_wp2_with fail
        go_quiet (fail)
        go_wp2_with fail
        go_meet
        exact ⟨by simp [hf], Lib.hid (HN.out.below (below_drewN (Below.refl _ _) nq)), Lib.hid (HX.out.below (below_drewN (Below.refl _ _) nq))⟩
      · go_wp2_with fail
        go_quiet (fail)
        go_wp2_with fail
        go_meet
        exact ⟨by simp [hf], Lib.hid (HN.out.below (below_drewN (Below.refl _ _) nq)), Lib.hid (HX.out.below (below_drewN (Below.refl _ _) nq))⟩
    · have hz' : (ne == 0) = false := by simpa using hz
      go_wp2_with fail
      go_quiet (fail)
      go_wp2_with fail
      go_meet
      exact ⟨by simp [hz], Lib.hid (HN.out.below (below_drewN (Below.refl _ _) nq)), Lib.hid (HX.out.below (below_drewN (Below.refl _ _) nq))⟩
  case rest =>
  clear HN HX
  obtain ⟨rfl, HN, HX⟩ := hcut
  go_upto_if 37 with (fail)
  by_cases hz : ne = 0
  · subst hz
    by_cases hf : (s.fs.length : Int) ≤ D.fi
    · have hd : decide ((0 : Int) = 0 ∧ (s.fs.length : Int) ≤ D.fi) = true := by simp [hf]
      rw [hd]
      have hle : le = 4 := by rw [HE.out]; rw [if_neg (by simp), if_pos hf]
      subst hle
      clear HE HLK
      obtain ⟨⟨n0, n1, n2, n3, n4⟩, _, nh⟩ := Des.At.five HN.out.at'
      obtain ⟨_, ⟨r0, r1, r2, r3, r4⟩, rh⟩ := Des.At.five HX.out.r
      have hk1 : ¬ K = W.heap.size + 1 := by have := HN.out.lo; have := HR1.out; omega
      have hk2 : ¬ W.heap.size + 1 = K := by omega
      go_wp2_with fail
      go_region
      go_wp2_with fail
      generalize hwB : World.drew _ = w9 at *
      have HP : Bx2 W w9 W.heap.size (W.heap.size + 1) cs [.int .i64 D.fi, .int .i64 D.fl, .int .i64 D.f, .int .i64 D.cu, .int .i64 D.rf] := by rw [← hwB]; exact (HX.out.putR [.int .i64 D.fi, .int .i64 D.fl, .int .i64 D.f, .int .i64 D.cu, .int .i64 D.rf] rfl).below (Below.refl _ _).drew
      clear hwB r0 r1 r2 r3 r4 n0 n1 n2 n3 n4
      obtain ⟨⟨q0, q1, q2, q3, q4⟩, _, _⟩ := Des.At.five HP.r
      exact bodyPost_ret (v := .tuple #[.int .i64 nv, .agg #[.int .i64 D.fi, .int .i64 D.fl, .int .i64 D.f, .int .i64 D.cu, .int .i64 D.rf], .int .i64 4]) (by simp [results, Tryz.results91, go_sem, q0, q1, q2, q3, q4]) rfl (RetW.mk rfl HP.bel)
    · have hd : decide ((0 : Int) = 0 ∧ (s.fs.length : Int) ≤ D.fi) = false := by simp [hf]
      rw [hd]
      by_cases ha : andV D.fl m = m
      · have ha1 : bits BinOp.and IntKind.i64 D.fl m = m := ha
        have hle : le = 0 := by rw [HE.out]; rw [if_neg (by simp), if_neg hf, if_neg (by simp [ha])]
        subst hle
        clear HE HLK
        obtain ⟨⟨n0, n1, n2, n3, n4⟩, _, nh⟩ := Des.At.five HN.out.at'
        obtain ⟨_, ⟨r0, r1, r2, r3, r4⟩, rh⟩ := Des.At.five HX.out.r
        have hk1 : ¬ K = W.heap.size + 1 := by have := HN.out.lo; have := HR1.out; omega
        have hk2 : ¬ W.heap.size + 1 = K := by omega
        go_wp2_with fail
        go_region
        go_wp2_with fail
        generalize hwB : World.drew _ = w9 at *
        have HP : Bx2 W w9 W.heap.size (W.heap.size + 1) cs [.int .i64 D.fi, .int .i64 D.fl, .int .i64 D.f, .int .i64 D.cu, .int .i64 D.rf] := by rw [← hwB]; exact (HX.out.putR [.int .i64 D.fi, .int .i64 D.fl, .int .i64 D.f, .int .i64 D.cu, .int .i64 D.rf] rfl).below (Below.refl _ _).drew
        clear hwB r0 r1 r2 r3 r4 n0 n1 n2 n3 n4
        obtain ⟨⟨q0, q1, q2, q3, q4⟩, _, _⟩ := Des.At.five HP.r
        exact bodyPost_ret (v := .tuple #[.int .i64 nv, .agg #[.int .i64 D.fi, .int .i64 D.fl, .int .i64 D.f, .int .i64 D.cu, .int .i64 D.rf], .int .i64 0]) (by simp [results, Tryz.results91, go_sem, q0, q1, q2, q3, q4]) rfl (RetW.mk rfl HP.bel)
      · have ha1 : ¬ bits BinOp.and IntKind.i64 D.fl m = m := ha
        have ha2 : (bits BinOp.and IntKind.i64 D.fl m == m) = false := by simpa using ha1
        have hle : le = 13 := by rw [HE.out]; rw [if_neg (by simp), if_neg hf, if_pos ha]
        subst hle
        clear HE HLK
        obtain ⟨⟨n0, n1, n2, n3, n4⟩, _, nh⟩ := Des.At.five HN.out.at'
        obtain ⟨_, ⟨r0, r1, r2, r3, r4⟩, rh⟩ := Des.At.five HX.out.r
        have hk1 : ¬ K = W.heap.size + 1 := by have := HN.out.lo; have := HR1.out; omega
        have hk2 : ¬ W.heap.size + 1 = K := by omega
        go_wp2_with fail
        go_region
        go_wp2_with fail
        generalize hwB : World.drew _ = w9 at *
        have HP : Bx2 W w9 W.heap.size (W.heap.size + 1) cs [.int .i64 D.fi, .int .i64 D.fl, .int .i64 D.f, .int .i64 D.cu, .int .i64 D.rf] := by rw [← hwB]; exact (HX.out.putR [.int .i64 D.fi, .int .i64 D.fl, .int .i64 D.f, .int .i64 D.cu, .int .i64 D.rf] rfl).below (Below.refl _ _).drew
        clear hwB r0 r1 r2 r3 r4 n0 n1 n2 n3 n4
        obtain ⟨⟨q0, q1, q2, q3, q4⟩, _, _⟩ := Des.At.five HP.r
        exact bodyPost_ret (v := .tuple #[.int .i64 nv, .agg #[.int .i64 D.fi, .int .i64 D.fl, .int .i64 D.f, .int .i64 D.cu, .int .i64 D.rf], .int .i64 13]) (by simp [results, Tryz.results91, go_sem, q0, q1, q2, q3, q4]) rfl (RetW.mk rfl HP.bel)
  · have hd : decide (ne = 0 ∧ (s.fs.length : Int) ≤ D.fi) = false := by simp [hz]
    rw [hd]
    have hz' : (ne == 0) = false := by simpa using hz
    have hle : le = ne := by rw [HE.out]; rw [if_pos hz]
    subst hle
    clear HE HLK
    obtain ⟨⟨n0, n1, n2, n3, n4⟩, _, nh⟩ := Des.At.five HN.out.at'
    obtain ⟨_, ⟨r0, r1, r2, r3, r4⟩, rh⟩ := Des.At.five HX.out.r
    have hk1 : ¬ K = W.heap.size + 1 := by have := HN.out.lo; have := HR1.out; omega
    have hk2 : ¬ W.heap.size + 1 = K := by omega
    go_wp2_with fail
    go_region
    go_wp2_with fail
    generalize hwB : World.drew _ = w9 at *
    have HP : Bx2 W w9 W.heap.size (W.heap.size + 1) cs [.int .i64 D.fi, .int .i64 D.fl, .int .i64 D.f, .int .i64 D.cu, .int .i64 D.rf] := by rw [← hwB]; exact (HX.out.putR [.int .i64 D.fi, .int .i64 D.fl, .int .i64 D.f, .int .i64 D.cu, .int .i64 D.rf] rfl).below (Below.refl _ _).drew
    clear hwB r0 r1 r2 r3 r4 n0 n1 n2 n3 n4
    obtain ⟨⟨q0, q1, q2, q3, q4⟩, _, _⟩ := Des.At.five HP.r
    exact bodyPost_ret (v := .tuple #[.int .i64 nv, .agg #[.int .i64 D.fi, .int .i64 D.fl, .int .i64 D.f, .int .i64 D.cu, .int .i64 D.rf], .int .i64 le]) (by simp [results, Tryz.results91, go_sem, q0, q1, q2, q3, q4]) rfl (RetW.mk rfl HP.bel)
end Go.Proofs.YtimhaidiclbnhaaGreat.Ver
