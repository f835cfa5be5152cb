/- Layer 46, shared texts of this seat, part 36. -/
import Derived.Test.YtimhaidiclbnhaaGreatM34
import Derived.Test.YtimhaidiclbnhaaGreatM13
import Derived.Test.YtimhaidiclbnhaaGreatM30
import Derived.Test.YtimhaidiclbnhaaGreatM27
/- Layer 46: the plans of addresses. -/
set_option linter.unusedSimpArgs false
set_option linter.unusedVariables false
set_option maxRecDepth 100000
namespace Go.Proofs.YtimhaidiclbnhaaGreat.Ver
open Go.ChangeShapes Go.WideShapes Go.ChangeAt Go.RowKit
open Des (Dv De Dn DIn DBlk DAns Vi At RowOf ints DSz)
open Ara (Ar ARow)
open Con (StrRow)

def adA (s : St) (p : Nat) (o : Opr) : Ar := if o.off < 0 then Ara.Ar.zero else Ara.optA (Ara.findV (s.ar.getD p []) ((o.off.toNat / 16 : Nat) : Int))
def adN (s : St) (p : Nat) (o : Opr) : Int := if o.off < 0 then 0 else ((adA s p o).pg + ((o.off.toNat / 16 : Nat) : Int) - (adA s p o).st) * 16 + ((o.off.toNat % 16 : Nat) : Int)
def adB (s : St) (p : Nat) (o : Opr) : Bool := if o.off < 0 then false else (Ara.findV (s.ar.getD p []) ((o.off.toNat / 16 : Nat) : Int)).isSome
set_option maxHeartbeats 8000000 in
theorem address_any (B : Nat) (l : Ly) (s : St) (p : Nat) (o : Opr) (x : Ev) (W : World) (h : Mm B W l s) (hp : p < s.ar.length) (hps : p < s.scr.length) (hn : s.scr.length ≤ 1000) (hal : (s.ar.getD p []).length ≤ 100) (hoff : o.off ≤ 1000000) :
    Calls Tryz.prog 111 #[stepV l.M (p : Int) o x] W (RetW (.tuple #[.agg #[.int .i64 (adA s p o).st, .int .i64 (adA s p o).cn, .int .i64 (adA s p o).fi, .int .i64 (adA s p o).pg, .bool (adA s p o).wr], .int .i64 (adN s p o), .bool (adB s p o)]) W) := by
  obtain ⟨a0, c0, hsl⟩ : ∃ a c, l.ar.getD p Sl.nil = ⟨a, c⟩ := ⟨_, _, rfl⟩
  have HC : Hid (∀ (q : Int) W', Below W.heap.size W W' → Calls Tryz.prog 137 #[.slice a0 (s.ar.getD p []).length c0, .int .i64 q] W' (RetW (.tuple #[.agg #[.int .i64 (Ara.optA (Ara.findV (s.ar.getD p []) q)).st, .int .i64 (Ara.optA (Ara.findV (s.ar.getD p []) q)).cn, .int .i64 (Ara.optA (Ara.findV (s.ar.getD p []) q)).fi, .int .i64 (Ara.optA (Ara.findV (s.ar.getD p []) q)).pg, .bool (Ara.optA (Ara.findV (s.ar.getD p []) q)).wr], .bool (Ara.findV (s.ar.getD p []) q).isSome]) W')) := Lib.hid fun q W' hb => by
    have h1 := (h.below hb).im.ra p hp
    rw [hsl] at h1
    exact Ara.find_any 0 a0 (s.ar.getD p []) c0 q W' h1.1 hal
  have HR : Hid (∀ W', Mm B W' l s → W'.cell? ⟨l.R, p, none⟩ = some (.slice a0 (s.ar.getD p []).length c0)) := Lib.hid fun W' hm => by
    have h1 := hm.r.cell p _ (slC_at l.ar s.ar p hp)
    rw [hsl] at h1
    exact h1
  have HM := Lib.hid h
  have HX := Lib.hid (Bx2.start W (stepC l.M (p : Int) o x) [.int .i64 0, .int .i64 0, .int .i64 0, .int .i64 0, .bool false] 122 139)
  unfold stepV
  obtain ⟨cs, hcs⟩ : ∃ cs, cs = stepC l.M (p : Int) o x := ⟨_, rfl⟩
  have HCS := Lib.hid hcs
  rw [← hcs] at HX ⊢
  have hpI : (p : Int) < (s.scr.length : Int) := by omega
  have hnI : (s.scr.length : Int) ≤ 1000 := by omega
  clear hcs h hsl
  by_cases hneg : o.off < 0
  · have e1 : adA s p o = Ara.Ar.zero := by unfold adA; rw [if_pos hneg]
    have e2 : adN s p o = 0 := by unfold adN; rw [if_pos hneg]
    have e3 : adB s p o = false := by unfold adB; rw [if_pos hneg]
    rw [e1, e2, e3]
    clear e1 e2 e3
    go_enter Tryz.func111, Tryz.ntmps111
    go_upto_region 1 with (fail)
    generalize World.alloc _ (Obj.cells #[.int .i64 0, .int .i64 0, .int .i64 0, .int .i64 0, .bool false] 139) = W1 at *
    have t6 := HX.out.t.cell 6 (.int .i64 o.off) (by rw [HCS.out]; rfl)
    obtain ⟨⟨rc0, rc1, rc2, rc3, rc4⟩, ⟨r0, r1, r2, r3, r4⟩, rh⟩ := Des.At.five HX.out.r
    go_wp2_with fail
    generalize hwB : (((((W1.setCell ⟨W.heap.size + 1, 0, none⟩ (.int .i64 0)).setCell ⟨W.heap.size + 1, 1, none⟩ (.int .i64 0)).setCell ⟨W.heap.size + 1, 2, none⟩ (.int .i64 0)).setCell ⟨W.heap.size + 1, 3, none⟩ (.int .i64 0)).setCell ⟨W.heap.size + 1, 4, none⟩ (.bool false)) = w9 at *
    have HP : Bx2 W w9 W.heap.size (W.heap.size + 1) cs [.int .i64 0, .int .i64 0, .int .i64 0, .int .i64 0, .bool false] := by rw [← hwB]; exact HX.out.putR [.int .i64 0, .int .i64 0, .int .i64 0, .int .i64 0, .bool false] rfl
    obtain ⟨⟨q0, q1, q2, q3, q4⟩, _, _⟩ := Des.At.five HP.r
    exact bodyPost_ret (v := .tuple #[.agg #[.int .i64 0, .int .i64 0, .int .i64 0, .int .i64 0, .bool false], .int .i64 0, .bool false]) (by simp [results, Tryz.results111, go_sem, q0, q1, q2, q3, q4]) rfl (RetW.mk rfl HP.bel)
  · obtain ⟨v, hv⟩ : ∃ v : Nat, o.off = (v : Int) := ⟨o.off.toNat, by omega⟩
    have e1 : adA s p o = Ara.optA (Ara.findV (s.ar.getD p []) ((v / 16 : Nat) : Int)) := by unfold adA; rw [if_neg hneg, hv, Int.toNat_natCast]
    have e2 : adN s p o = ((adA s p o).pg + ((v / 16 : Nat) : Int) - (adA s p o).st) * 16 + ((v % 16 : Nat) : Int) := by unfold adN; rw [if_neg hneg, hv, Int.toNat_natCast]
    have e3 : adB s p o = (Ara.findV (s.ar.getD p []) ((v / 16 : Nat) : Int)).isSome := by unfold adB; rw [if_neg hneg, hv, Int.toNat_natCast]
    rw [e2, e3, e1]
    have HOF := Lib.hid hv
    obtain ⟨b1, b2, b3, b4⟩ := Ara.find_bound (l := s.ar.getD p []) (p := ((v / 16 : Nat) : Int))
    replace HC := Lib.hid (HC.out ((v / 16 : Nat) : Int))
    have hv1 : v ≤ 1000000 := by omega
    clear e1 e2 e3 hneg hv hoff
    generalize Ara.optA (Ara.findV (s.ar.getD p []) ((v / 16 : Nat) : Int)) = a at *
    generalize (Ara.findV (s.ar.getD p []) ((v / 16 : Nat) : Int)).isSome = fb at *
    generalize (s.ar.getD p []).length = la at *
    have hc1 : ((v / 16 : Nat) : Int) = (v : Int) / 16 := Int.natCast_ediv v 16
    have hc2 : ((v % 16 : Nat) : Int) = (v : Int) % 16 := Int.natCast_emod v 16
    rw [hc1] at HC
    rw [hc1, hc2]
    have hq0 : 0 ≤ (v : Int) / 16 ∧ (v : Int) / 16 ≤ 1000000 := by omega
    have hr0 : 0 ≤ (v : Int) % 16 ∧ (v : Int) % 16 < 16 := by omega
    clear hc1 hc2
    go_enter Tryz.func111, Tryz.ntmps111
    go_upto_region 1 with (fail)
    generalize World.alloc _ (Obj.cells #[.int .i64 0, .int .i64 0, .int .i64 0, .int .i64 0, .bool false] 139) = W1 at *
    have t6 := HX.out.t.cell 6 (.int .i64 (v : Int)) (by rw [HCS.out, ← HOF.out]; rfl)
    have hv0 : ¬ (v : Int) < 0 := by omega
    go_upto_region 4 with (fail)
    obtain ⟨hq0, hq1⟩ := hq0
    obtain ⟨hr0, hr1⟩ := hr0
    have HDQ := Lib.hid hv1
    generalize (v : Int) / 16 = q at *
    have HM1 := Lib.hid (HM.out.below HX.out.bel)
    have HR1 : Hid (W.heap.size + 1 < W1.heap.size) := Lib.hid HX.out.r.hi
    clear t6
    go_cut [5, 6, 7] (fun s5 s6 s7 wx => ∃ K, s5 = .int .i64 q ∧ s6 = .pointer (some ⟨K, 0, none⟩) ∧ s7 = .bool fb ∧ Hid (Nb W1 wx K [.int .i64 a.st, .int .i64 a.cn, .int .i64 a.fi, .int .i64 a.pg, .bool a.wr]))
    case first =>
      have HX0 := HX
      replace HX := Lib.hid (HX.out.below (Below.refl _ _).drew)
      have hT : W.heap.size < W1.heap.size := HX0.out.t.hi
      have hM : l.M < W1.heap.size := (HM.out.below HX0.out.bel).m.hi
      have e1 : ¬ W1.heap.size = W.heap.size := by omega
      have e2 : ¬ W.heap.size = W1.heap.size := by omega
      have e3 : ¬ W1.heap.size = l.M := by omega
      have e4 : ¬ l.M = W1.heap.size := by omega
      have hm1 : l.R < W1.heap.size := HM1.out.hi _ (by simp [vs])
      have f1a : ¬ W1.heap.size = l.R := by omega
      have f1b : ¬ l.R = W1.heap.size := by omega
      have yt0 := HX0.out.t.cell 0 (.pointer (some ⟨l.M, 0, none⟩)) (by rw [HCS.out]; rfl); have yt1 := HX0.out.t.cell 1 (.int .i64 (p : Int)) (by rw [HCS.out]; rfl); have ymR := (HM.out.below HX0.out.bel).cR; have yrr := HR.out _ (HM.out.below HX0.out.bel)
      have t0 := HX.out.t.cell 0 (.pointer (some ⟨l.M, 0, none⟩)) (by rw [HCS.out]; rfl); have t1 := HX.out.t.cell 1 (.int .i64 (p : Int)) (by rw [HCS.out]; rfl); have mR := (HM.out.below HX.out.bel).cR; have rr := HR.out _ (HM.out.below HX.out.bel)
      go_region_held3 (fun w' => w'.cell? ⟨W.heap.size, 0, none⟩ = some (.pointer (some ⟨l.M, 0, none⟩)) ∧ w'.cell? ⟨W.heap.size, 1, none⟩ = some (.int .i64 (p : Int)) ∧ w'.cell? ⟨l.M, 26, none⟩ = some (.slice (some ⟨l.R, 0, none⟩) s.scr.length s.scr.length) ∧ w'.cell? ⟨l.R, p, none⟩ = some (.slice a0 la c0)) (go_keep) (first | (go_at_call 137; refine (HC.out _ (by first | exact HX.out.bel | exact (HX.out.below ((Below.refl _ _).alloc (Nat.le_refl _) _)).bel)).mono ?_; rintro e w2 ⟨rfl, hb⟩; (first | (have HA := Lib.hid hb; replace HX := Lib.hid (HX.out.below hb)) | (have HB := Lib.hid hb; obtain ⟨_, ⟨f0, f1, f2, f3, f4⟩, fh⟩ := Des.At.five (((At.new W1 [.int .i64 0, .int .i64 0, .int .i64 0, .int .i64 0, .bool false] 139).drew).below hb (by show W1.heap.size < (W1.alloc _).heap.size; rw [Des.alloc_size]; omega)); replace HX := Lib.hid ((HX.out.below ((Below.refl _ _).alloc (Nat.le_refl _) _)).below hb))); clear hb t0 t1 mR rr; have t0 := HX.out.t.cell 0 (.pointer (some ⟨l.M, 0, none⟩)) (by rw [HCS.out]; rfl); have t1 := HX.out.t.cell 1 (.int .i64 (p : Int)) (by rw [HCS.out]; rfl); have mR := (HM.out.below HX.out.bel).cR; have rr := HR.out _ (HM.out.below HX.out.bel)))
      all_goals
        go_wp2_with fail
        go_meet
        first | exact ⟨_, rfl, rfl, rfl, Lib.hid (Nb.after ((Below.refl W1.heap.size W1).drew.trans HA.out) [.int .i64 a.st, .int .i64 a.cn, .int .i64 a.fi, .int .i64 a.pg, .bool a.wr] 139)⟩ | exact ⟨_, rfl, rfl, rfl, Lib.hid (Nb.before (T := 139) (zs := [.int .i64 0, .int .i64 0, .int .i64 0, .int .i64 0, .bool false]) ((Below.refl (W1.alloc _).heap.size (W1.alloc _)).drew.trans HB.out) [.int .i64 a.st, .int .i64 a.cn, .int .i64 a.fi, .int .i64 a.pg, .bool a.wr] rfl)⟩
    case rest =>
    obtain ⟨K, rfl, rfl, rfl, HN⟩ := hcut
    replace HX := Lib.hid (HX.out.below HN.out.bel)
    clear HC
    have HK := Lib.hid HN.out.at'
    have t6 := HX.out.t.cell 6 (.int .i64 (v : Int)) (by rw [HCS.out, ← HOF.out]; rfl)
    obtain ⟨⟨rc0, rc1, rc2, rc3, rc4⟩, ⟨r0, r1, r2, r3, r4⟩, rh⟩ := Des.At.five HX.out.r
    obtain ⟨⟨n0, n1, n2, n3, n4⟩, _, nh⟩ := Des.At.five HK.out
    have hk1 : ¬ K = W.heap.size + 1 := by have := HN.out.lo; have := HR1.out; omega
    have hk2 : ¬ W.heap.size + 1 = K := by omega
    have hk3 : ¬ K = W.heap.size := by have := HN.out.lo; have := HR1.out; omega
    have hk4 : ¬ W.heap.size = K := by omega
    have w1 : wrap64 (a.pg + q) = a.pg + q := IntWalk.wrap64_in _ (by omega)
    have w2 : wrap64 (a.pg + q - a.st) = a.pg + q - a.st := IntWalk.wrap64_in _ (by omega)
    have w3 : wrap64 ((a.pg + q - a.st) * 16) = (a.pg + q - a.st) * 16 := IntWalk.wrap64_in _ (by omega)
    have w4 : wrap64 ((a.pg + q - a.st) * 16 + (v : Int) % 16) = (a.pg + q - a.st) * 16 + (v : Int) % 16 := IntWalk.wrap64_in _ (by omega)
    go_wp2_with fail
    go_region
    go_wp2_with fail
    generalize hwB : World.drew _ = w9 at *
    have HP : Bx2 W w9 W.heap.size (W.heap.size + 1) cs [.int .i64 a.st, .int .i64 a.cn, .int .i64 a.fi, .int .i64 a.pg, .bool a.wr] := by rw [← hwB]; exact (HX.out.putR [.int .i64 a.st, .int .i64 a.cn, .int .i64 a.fi, .int .i64 a.pg, .bool a.wr] rfl).below (Below.refl _ _).drew
    clear hwB r0 r1 r2 r3 r4 n0 n1 n2 n3 n4 rc0 rc1 rc2 rc3 rc4
    obtain ⟨⟨q0, q1, q2, q3, q4⟩, _, _⟩ := Des.At.five HP.r
    exact bodyPost_ret (v := .tuple #[.agg #[.int .i64 a.st, .int .i64 a.cn, .int .i64 a.fi, .int .i64 a.pg, .bool a.wr], .int .i64 ((a.pg + q - a.st) * 16 + (v : Int) % 16), .bool fb]) (by simp [results, Tryz.results111, go_sem, q0, q1, q2, q3, q4]) rfl (RetW.mk rfl HP.bel)
end Go.Proofs.YtimhaidiclbnhaaGreat.Ver
/- Layer 46: the plans of load. -/
set_option linter.unusedSimpArgs false
set_option linter.unusedVariables false
set_option maxRecDepth 100000
namespace Go.Proofs.YtimhaidiclbnhaaGreat.Ver
open Go.ChangeShapes Go.WideShapes Go.ChangeAt Go.RowKit
open Des (Dv De Dn DIn DBlk DAns Vi At RowOf ints DSz)
open Ara (Ar ARow)
open Con (StrRow)

theorem no_bytes' {d : ByteArray} (h : d.size = 0) : d = ⟨#[]⟩ := by
  cases d with | mk a => simp [ByteArray.size] at h; rw [h]
theorem some_bytes' {d : ByteArray} (h : ¬ d.size = 0) : ¬ d.toList = [] ∧ d.toList.isEmpty = false := by
  have h1 : ¬ d.toList = [] := fun e => h (by
    rw [ByteArray.toList_eq] at e
    have : d.data.toList.length = 0 := by rw [e]; rfl
    rw [Array.length_toList] at this
    exact this)
  exact ⟨h1, by cases h9 : d.toList with | nil => exact absurd h9 h1 | cons a b => rfl⟩
def loadR (s : St) (p : Nat) (o : Opr) : Res × St :=
  if adB s p o = false then (badR 4, s) else if (Con.readV (s.fs.getD (adA s p o).fi.toNat ⟨#[]⟩) (adN s p o) 1).1.size = 0 then (badR 12, s) else (⟨0, 1, (Con.readV (s.fs.getD (adA s p o).fi.toNat ⟨#[]⟩) (adN s p o) 1).1⟩, s)
set_option maxHeartbeats 8000000 in
theorem load_any (B : Nat) (l : Ly) (s : St) (p : Nat) (o : Opr) (x : Ev) (W : World) (h : Mm B W l s) (hp : p < s.ar.length) (hps : p < s.scr.length) (hn : s.fs.length ≤ 1000) (hn2 : s.scr.length ≤ 1000) (hal : (s.ar.getD p []).length ≤ 100) (hoff : o.off ≤ 1000000) (hsz : ∀ y, y ∈ s.fs → y.size ≤ 1000) (haf : adB s p o = true → ∃ f : Nat, (adA s p o).fi = (f : Int) ∧ f < s.fs.length) :
    Calls Tryz.prog 75 #[stepV l.M (p : Int) o x] W (PlanP B W l s (loadR s p o).1 (loadR s p o).2) := by
  have HAD : Hid (∀ W', Below W.heap.size W W' → Calls Tryz.prog 111 #[stepV l.M (p : Int) o x] W' (RetW (.tuple #[.agg #[.int .i64 (adA s p o).st, .int .i64 (adA s p o).cn, .int .i64 (adA s p o).fi, .int .i64 (adA s p o).pg, .bool (adA s p o).wr], .int .i64 (adN s p o), .bool (adB s p o)]) W')) := Lib.hid fun W' hb => address_any B l s p o x W' (h.below hb) hp hps hn2 hal hoff
  have HM := Lib.hid h
  have HCA : Hid (∀ (sd : ByteArray) (f : Int) W', sd.size ≤ 1000 → Calls Tryz.prog 92 #[.string sd, .int .i64 f, .int .i64 1] W' (fun e w' => e = .returned (.tuple #[.string (Con.readV sd f 1).1, .int .i64 (Con.readV sd f 1).2]) ∧ W' = w')) := Lib.hid fun sd f W' hs => Con.read_any sd f 1 W' (by unfold maxLen; omega)
  have HE : Hid (loadR s p o = if adB s p o = false then (badR 4, s) else if (Con.readV (s.fs.getD (adA s p o).fi.toNat ⟨#[]⟩) (adN s p o) 1).1.size = 0 then (badR 12, s) else (⟨0, 1, (Con.readV (s.fs.getD (adA s p o).fi.toNat ⟨#[]⟩) (adN s p o) 1).1⟩, s)) := Lib.hid rfl
  have HX := Lib.hid (Bx2.start W (stepC l.M (p : Int) o x) [.int .i64 0, .int .i64 0, .string ⟨#[]⟩, .nilFunc] 122 114)
  have hmf : ∀ (fn : Fn) (first cap : Array Value) (w : World), (Instr.makeFunc fn first cap).run Tryz.prog w = .ok (.func fn first cap) w := fun _ _ _ _ => rfl
  unfold stepV at HAD ⊢
  obtain ⟨cs, hcs⟩ : ∃ cs, cs = stepC l.M (p : Int) o x := ⟨_, rfl⟩
  have HCS := Lib.hid hcs
  rw [← hcs] at HX HAD ⊢
  clear hcs h
  have HAF := Lib.hid haf
  clear haf
  generalize loadR s p o = PR at *
  generalize adA s p o = A at *
  generalize adN s p o = an at *
  generalize adB s p o = ab at *
  go_enter Tryz.func75, Tryz.ntmps75
  go_upto_region 1 with (fail)
  generalize World.alloc _ (Obj.cells #[.int .i64 0, .int .i64 0, .string ⟨#[]⟩, .nilFunc] 114) = W0 at *
  have hmf' := Lib.hid hmf
  clear hmf
  go_wp2_with (with_reducible refine Des.hold_load 122 rfl ?_)
  refine Des.load_ato 0 HX.out.t.r Tryz.underlying122 rfl (by rw [HCS.out]; exact size122) rfl rfl rfl ?_
  go_wp2_with fail
  refine (HAD.out _ HX.out.bel).mono ?_
  rintro e w1 ⟨rfl, hb⟩
  replace HX := Lib.hid (HX.out.below hb)
  clear hb HAD
  have HR1 : Hid (W.heap.size + 1 < w1.heap.size) := Lib.hid HX.out.r.hi
  have HK := Lib.hid (At.new w1 [.int .i64 A.st, .int .i64 A.cn, .int .i64 A.fi, .int .i64 A.pg, .bool A.wr] 139)
  have HBK : Hid (Below w1.heap.size w1 (w1.alloc (.cells ([.int .i64 A.st, .int .i64 A.cn, .int .i64 A.fi, .int .i64 A.pg, .bool A.wr] : List Value).toArray 139))) := Lib.hid ((Below.refl _ _).alloc (Nat.le_refl _) _)
  go_upto_region 2 with (fail)
  replace HX := Lib.hid (HX.out.below HBK.out)
  clear HBK
  generalize w1.alloc (Obj.cells #[.int .i64 A.st, .int .i64 A.cn, .int .i64 A.fi, .int .i64 A.pg, .bool A.wr] 139) = W1 at *
  generalize w1.heap.size = K at *
  cases ab with
  | false =>
    obtain ⟨PR1, PR2⟩ := PR
    obtain ⟨rfl, rfl⟩ : PR1 = _ ∧ PR2 = _ := by have := HE.out.trans (if_pos rfl); exact ⟨congrArg Prod.fst this, congrArg Prod.snd this⟩
    clear HE
    go_wp2_with fail
    refine (bad_any 4 _).mono ?_
    rintro e w5 ⟨rfl, hb⟩
    replace HX := Lib.hid (HX.out.below hb)
    clear hb
    obtain ⟨_, ⟨r0, r1, r2, r3⟩, rh⟩ := At.four HX.out.r
    obtain ⟨rc0, rc1, rc2, rc3⟩ := (At.four HX.out.r).1
    go_wp2_with fail
    generalize hwB : (((w5.setCell ⟨W.heap.size + 1, 0, none⟩ (.int .i64 4)).setCell ⟨W.heap.size + 1, 1, none⟩ (.int .i64 0)).setCell ⟨W.heap.size + 1, 2, none⟩ (.string ⟨#[]⟩)).setCell ⟨W.heap.size + 1, 3, none⟩ (.nilFunc) = w9 at *
    have HP : Bx2 W w9 W.heap.size (W.heap.size + 1) cs [.int .i64 4, .int .i64 0, .string ⟨#[]⟩, .nilFunc] := by rw [← hwB]; exact HX.out.putR [.int .i64 4, .int .i64 0, .string ⟨#[]⟩, .nilFunc] rfl
    skip
    clear r0 r1 r2 r3 rc0 rc1 rc2 rc3
    obtain ⟨⟨q0, q1, q2, q3⟩, _, _⟩ := At.four HP.r
    exact bodyPost_ret (v := .agg #[.int .i64 4, .int .i64 0, .string ⟨#[]⟩, .nilFunc]) (by simp [results, Tryz.results75, go_sem, q0, q1, q2, q3]) rfl ⟨_, rfl, HP.bel, Or.inl ⟨rfl, rfl⟩⟩
  | true =>
    have HE2 := Lib.hid (HE.out.trans (if_neg (by simp)))
    clear HE
    have HE := HE2
    clear HE2
    obtain ⟨f, hf, hfn⟩ := HAF.out rfl
    rw [hf, Int.toNat_natCast] at HE
    have HFI : Hid (A.fi = (f : Int)) := Lib.hid hf
    have hsd : (s.fs.getD f ⟨#[]⟩).size ≤ 1000 := hsz _ (by rw [List.getD_eq_getElem?_getD, List.getElem?_eq_getElem hfn]; exact List.getElem_mem hfn)
    have HFC := Lib.hid (fs_at s.fs f hfn)
    generalize s.fs.getD f ⟨#[]⟩ = sd at *
    have HCB := Lib.hid (fun W' => HCA.out sd an W' hsd)
    clear HCA HAF hf hsd
    obtain ⟨TD, TE, hte⟩ : ∃ TD TE, Con.readV sd an 1 = (TD, TE) := ⟨_, _, rfl⟩
    rw [hte] at HE HCB
    simp only at HE HCB
    clear hte
    have hfI : (f : Int) < (s.fs.length : Int) := by omega
    have hnI : (s.fs.length : Int) ≤ 1000 := by omega
    go_upto_region 4 with (fail)
    go_cut [6] (fun v wx => v = .string TD ∧ Hid (Below W1.heap.size W1 wx))
    case first =>
      replace HX := Lib.hid (HX.out.below (Below.refl _ _).drew)
      replace HK := Lib.hid (Des.At.drew HK.out)
      have t0 := HX.out.t.cell 0 (.pointer (some ⟨l.M, 0, none⟩)) (by rw [HCS.out]; rfl); have mF := (HM.out.below HX.out.bel).cF; have a := (HM.out.below HX.out.bel).f.cell f (.string sd) HFC.out; have d2 := HK.out.cell 2 (.int .i64 (f : Int)) (by rw [← HFI.out]; rfl)
      go_region_held3 (fun w' => w'.cell? ⟨W.heap.size, 0, none⟩ = some (.pointer (some ⟨l.M, 0, none⟩)) ∧ w'.cell? ⟨l.M, 21, none⟩ = some (.slice (some ⟨l.F, 0, none⟩) s.fs.length s.fs.length) ∧ w'.cell? ⟨l.F, f, none⟩ = some (.string sd) ∧ w'.cell? ⟨K, 2, none⟩ = some (.int .i64 (f : Int))) (go_keep) (first | (go_at_call 92; refine (HCB.out _).mono ?_; rintro e w3 ⟨rfl, rfl⟩))
      all_goals
        go_wp2_with fail
        go_meet
        exact ⟨rfl, Lib.hid (Below.refl W1.heap.size W1).drew⟩
    case rest =>
    obtain ⟨rfl, HBB⟩ := hcut
    replace HX := Lib.hid (HX.out.below HBB.out)
    clear HBB HCB
    by_cases hd : TD.size = 0
    · have hd0 := no_bytes' hd
      obtain ⟨PR1, PR2⟩ := PR
      obtain ⟨rfl, rfl⟩ : PR1 = _ ∧ PR2 = _ := by have := HE.out.trans (if_pos hd); exact ⟨congrArg Prod.fst this, congrArg Prod.snd this⟩
      clear HE
      subst hd0
      clear hd
      go_wp2_with fail
      refine (bad_any 12 _).mono ?_
      rintro e w5 ⟨rfl, hb⟩
      replace HX := Lib.hid (HX.out.below hb)
      clear hb
      obtain ⟨_, ⟨r0, r1, r2, r3⟩, rh⟩ := At.four HX.out.r
      obtain ⟨rc0, rc1, rc2, rc3⟩ := (At.four HX.out.r).1
      go_wp2_with fail
      generalize hwB : (((w5.setCell ⟨W.heap.size + 1, 0, none⟩ (.int .i64 12)).setCell ⟨W.heap.size + 1, 1, none⟩ (.int .i64 0)).setCell ⟨W.heap.size + 1, 2, none⟩ (.string ⟨#[]⟩)).setCell ⟨W.heap.size + 1, 3, none⟩ (.nilFunc) = w9 at *
      have HP : Bx2 W w9 W.heap.size (W.heap.size + 1) cs [.int .i64 12, .int .i64 0, .string ⟨#[]⟩, .nilFunc] := by rw [← hwB]; exact HX.out.putR [.int .i64 12, .int .i64 0, .string ⟨#[]⟩, .nilFunc] rfl
      skip
      clear r0 r1 r2 r3 rc0 rc1 rc2 rc3
      obtain ⟨⟨q0, q1, q2, q3⟩, _, _⟩ := At.four HP.r
      exact bodyPost_ret (v := .agg #[.int .i64 12, .int .i64 0, .string ⟨#[]⟩, .nilFunc]) (by simp [results, Tryz.results75, go_sem, q0, q1, q2, q3]) rfl ⟨_, rfl, HP.bel, Or.inl ⟨rfl, rfl⟩⟩
    · obtain ⟨hd1, hd3⟩ := some_bytes' hd
      have hd2 : ¬ TD = ⟨#[]⟩ := fun e => hd (by rw [e]; rfl)
      obtain ⟨PR1, PR2⟩ := PR
      obtain ⟨rfl, rfl⟩ : PR1 = _ ∧ PR2 = _ := by have := HE.out.trans (if_neg hd); exact ⟨congrArg Prod.fst this, congrArg Prod.snd this⟩
      clear HE
      clear hd
      obtain ⟨_, ⟨r0, r1, r2, r3⟩, rh⟩ := At.four HX.out.r
      obtain ⟨rc0, rc1, rc2, rc3⟩ := (At.four HX.out.r).1
      go_wp2_with fail
      generalize hwB : (((wc.setCell ⟨W.heap.size + 1, 0, none⟩ (.int .i64 0)).setCell ⟨W.heap.size + 1, 1, none⟩ (.int .i64 1)).setCell ⟨W.heap.size + 1, 2, none⟩ (.string TD)).setCell ⟨W.heap.size + 1, 3, none⟩ (.nilFunc) = w9 at *
      have HP : Bx2 W w9 W.heap.size (W.heap.size + 1) cs [.int .i64 0, .int .i64 1, .string TD, .nilFunc] := by rw [← hwB]; exact HX.out.putR [.int .i64 0, .int .i64 1, .string TD, .nilFunc] rfl
      skip
      clear r0 r1 r2 r3 rc0 rc1 rc2 rc3
      obtain ⟨⟨q0, q1, q2, q3⟩, _, _⟩ := At.four HP.r
      exact bodyPost_ret (v := .agg #[.int .i64 0, .int .i64 1, .string TD, .nilFunc]) (by simp [results, Tryz.results75, go_sem, q0, q1, q2, q3]) rfl ⟨_, rfl, HP.bel, Or.inl ⟨rfl, rfl⟩⟩
end Go.Proofs.YtimhaidiclbnhaaGreat.Ver
