/- Layer 46, shared texts of this seat, part 32. -/
import Derived.Test.YtimhaidiclbnhaaGreatM23
import Derived.Test.YtimhaidiclbnhaaGreatM22
/- Layer 46: the plans of the closure of sync. -/
set_option linter.unusedSimpArgs false
set_option linter.unusedVariables false
set_option maxRecDepth 100000
namespace Go.Proofs.YtimhaidiclbnhaaGreat.Ver
open Go.ChangeShapes Go.WideShapes Go.ChangeAt Go.RowKit
open Des (Dv De Dn DIn DBlk DAns Vi At RowOf ints DSz)
open Ara (Ar ARow)
open Con (StrRow)

/-- a synchronisation that ended without an error is noted -/
def syS (s : St) (f : Nat) (x : Ev) : St :=
  if x.er = 0 ∧ 0 ≤ x.bg ∧ x.bg < ((s.st.getD f []).length : Int) then { s with h := s.h.set f ((s.h.getD f ([], 0)).1, Con.syncV (s.h.getD f ([], 0)).1.length (s.h.getD f ([], 0)).2 ((s.st.getD f []).getD x.bg.toNat 0 - 1)) } else s
set_option maxHeartbeats 16000000 in
theorem clo104 (B : Nat) (l : Ly) (s : St) (p : Int) (o : Opr) (x : Ev) (n : Int) (D : Dn) (f : Nat) (T N K : Nat) (W : World) (h : Mm B W l s) (hr : Des.Rt s.d) (hf : f < s.fs.length) (hfh : f < s.h.length) (hfs : f < s.st.length) (hn : s.fs.length ≤ 1000) (hl : (s.h.getD f ([], 0)).1.length ≤ 10000) (hsl : (s.st.getD f []).length ≤ 10000) (hst : ∀ z, z ∈ s.st.getD f [] → 0 ≤ z ∧ z ≤ 1000000) (hD : D.fi = (f : Int)) (hT : At W T (stepC l.M p o x)) (hN : At W N [.int .i64 n]) (hK : At W K (dnL D)) (vT : T ∉ vs l) (vK : K ∉ vs l) :
    Calls Tryz.prog 104 #[.pointer (some ⟨T, 0, none⟩), .pointer (some ⟨N, 0, none⟩), .pointer (some ⟨K, 0, none⟩)] W fun e w3 => ∃ x' ar' hs', e = .returned (.tuple #[]) ∧ Mm B w3 { l with x := x', ar := ar', hs := hs' } (syS { s with d := Des.updD s.d n D.f D.cu } f x) ∧ Vk (vs l) W w3 := by
  have HU := Lib.hid (update_any B l s p o x n D W h hr)
  obtain ⟨L, q, hp⟩ : ∃ L q, s.h.getD f ([], 0) = (L, q) := ⟨_, _, rfl⟩
  obtain ⟨a, c, hsl2⟩ : ∃ a c, l.hs.getD f Sl.nil = ⟨a, c⟩ := ⟨_, _, rfl⟩
  obtain ⟨R, hR⟩ : ∃ R, s.st.getD f [] = R := ⟨_, rfl⟩
  obtain ⟨sa, sc, hss⟩ : ∃ sa sc, l.st.getD f Sl.nil = ⟨sa, sc⟩ := ⟨_, _, rfl⟩
  have HH : Hid (∀ (y : Dv) W', Mm B W' { l with x := y } { s with d := y.pl } → (W'.cell? ⟨l.H, f * 2, none⟩ = some (.slice a L.length c) ∧ W'.cell? ⟨l.H, f * 2 + 1, none⟩ = some (.int .i64 q)) ∧ W'.frozen? ⟨l.H, f * 2, none⟩ = false ∧ W'.frozen? ⟨l.H, f * 2 + 1, none⟩ = false ∧ l.H < W'.heap.size) := Lib.hid fun y W' hm => by
    obtain ⟨h1, h2⟩ := hC_at l.hs s.h f hfh
    rw [hp, hsl2] at h1
    rw [hp] at h2
    exact ⟨⟨hm.h.cell (f * 2) _ h1, hm.h.cell (f * 2 + 1) _ h2⟩, hm.h.free (f * 2) (by rw [hC_len]; show _ < s.h.length * 2; omega), hm.h.free (f * 2 + 1) (by rw [hC_len]; show _ < s.h.length * 2; omega), hm.h.hi⟩
  have HS : Hid (∀ (y : Dv) W', Mm B W' { l with x := y } { s with d := y.pl } → W'.cell? ⟨l.S, f, none⟩ = some (.slice sa R.length sc) ∧ RowOf W' sa R.length sc (ints R)) := Lib.hid fun y W' hm => by
    have h1 := slC_at l.st s.st f hfs
    rw [hR, hss] at h1
    have h2 := hm.rs f hfs
    have h3 : W'.ownsRow B 3 1 (.slice sa R.length sc) R.length (ints R) := by
      have e : ({ l with x := y } : Ly).st.getD f Sl.nil = ⟨sa, sc⟩ := hss
      have e2 : ({ s with d := y.pl } : St).st.getD f [] = R := hR
      rw [e, e2] at h2
      exact h2
    exact ⟨hm.S.cell f _ h1, Des.RowOf.ofOwn h3⟩
  have HSB : Hid (∀ g of, sa = some ⟨g, of, none⟩ → g ≠ l.H) := Lib.hid fun g of e hg => h.nst.2.2.2.2.2.1 (hg ▸ h.sn hfs (q := g) (by rw [hss]; simp [e, Value.ownBlock]))
  have HCH : Hid (∀ (y : Dv) (t : Int) W', Mm B W' { l with x := y } { s with d := y.pl } → Calls Tryz.prog 105 #[.agg #[.slice a L.length c, .int .i64 q], .int .i64 t] W' fun e w' => ∃ a' cap', e = .returned (.agg #[.slice a' L.length cap', .int .i64 (Con.syncV L.length q t)]) ∧ StrRow W'.heap.size a' cap' L w' ∧ Below W'.heap.size W' w') := Lib.hid fun y t W' hm => by
    have h1 := (hm.im.rh f hfh).1
    rw [show ({ l with x := y } : Ly).hs.getD f Sl.nil = ⟨a, c⟩ from hsl2] at h1
    have h2 : StrRow 0 a c L W' := by have e : (s.h.getD f ([], 0)).1 = L := by rw [hp]
                                      rw [← e]; exact h1
    exact Con.synced_any 0 a L c q t W' h2 (by rw [hp] at hl; exact hl)
  have HPP : Hid (∀ d : De, syS { s with d := d } f x = if x.er = 0 ∧ 0 ≤ x.bg ∧ x.bg < (R.length : Int) then { s with d := d, h := s.h.set f (L, Con.syncV L.length q (R.getD x.bg.toNat 0 - 1)) } else { s with d := d }) := Lib.hid (by intro d; unfold syS; simp only [hR, hp])
  rw [hR] at hsl hst
  obtain ⟨cs, hcs⟩ : ∃ cs, cs = stepC l.M p o x := ⟨_, rfl⟩
  have HCS := Lib.hid hcs
  unfold stepV at HU
  rw [← hcs] at hT HU
  have HT := Lib.hid hT
  have HK := Lib.hid hK
  have HM0 := Lib.hid h
  have n0 := hN.cell 0 _ rfl
  obtain ⟨⟨d0, d1, d2, d3, d4⟩, _, _⟩ := Des.At.five hK
  have HFH := Lib.hid hfh
  have HD := Lib.hid hD
  clear h hT hN hK hcs hp hsl2 hR hss hl hfh hfs hD
  rw [HPP.out]
  clear HPP
  generalize Des.updD s.d n D.f D.cu = dd at *
  obtain ⟨s9, hs9⟩ : ∃ s9, s9 = (if x.er = 0 ∧ 0 ≤ x.bg ∧ x.bg < (R.length : Int) then { s with d := dd, h := s.h.set f (L, Con.syncV L.length q (R.getD x.bg.toNat 0 - 1)) } else { s with d := dd }) := ⟨_, rfl⟩
  rw [← hs9]
  have HS9 := Lib.hid hs9
  clear hs9
  go_enter Tryz.func104, Tryz.ntmps104
  go_wp2_with (with_reducible refine Des.hold_load 122 rfl ?_)
  refine Des.load_ato 0 HT.out.r Tryz.underlying122 rfl (by rw [HCS.out]; exact size122) rfl rfl rfl ?_
  go_wp2_with fail
  refine HU.out.mono ?_
  rintro e w' ⟨y, rfl, hpl, hm, hv⟩
  subst hpl
  have HM := Lib.hid hm
  have HV := Lib.hid hv
  replace HT := Lib.hid (HV.out.at HT.out vT)
  replace HK := Lib.hid (HV.out.at HK.out vK)
  clear hm hv HU d0 d1 d2 d3 d4 n0
  have t0 := HT.out.cell 0 (.pointer (some ⟨l.M, 0, none⟩)) (by rw [HCS.out]; rfl)
  have t16 := HT.out.cell 16 (.int .i64 x.bg) (by rw [HCS.out]; rfl)
  have t17 := HT.out.cell 17 (.int .i64 x.er) (by rw [HCS.out]; rfl)
  have d0 : w'.cell? ⟨K, 0, none⟩ = some (.int .i64 (f : Int)) := by rw [← HD.out]; exact HK.out.cell 0 _ rfl
  have mS : w'.cell? ⟨l.M, 28, none⟩ = some (.slice (some ⟨l.S, 0, none⟩) s.fs.length s.fs.length) := HM.out.cS
  have mr := (HS.out y _ HM.out).1
  have hfI : (f : Int) < (s.fs.length : Int) := by omega
  have hnI : (s.fs.length : Int) ≤ 1000 := by omega
  have hRl : (R.length : Int) ≤ 10000 := by omega
  go_wp2_with fail
  go_quiet (fail)
  replace HM := Lib.hid (HM.out.below (below_drewN (Below.refl _ _) nq))
  replace HT := Lib.hid (HT.out.below (below_drewN (Below.refl w'.heap.size w') nq) HT.out.hi)
  replace HK := Lib.hid (HK.out.below (below_drewN (Below.refl w'.heap.size w') nq) HK.out.hi)
  replace HV := Lib.hid (HV.out.trans (Vk.ofBelow (below_drewN (Below.refl w'.heap.size w') nq)))
  clear t0 t16 t17 d0 mS mr
  generalize w'.drewN nq = W1 at *
  have t17 := HT.out.cell 17 (.int .i64 x.er) (by rw [HCS.out]; rfl)
  by_cases hc : x.er = 0 ∧ 0 ≤ x.bg ∧ x.bg < (R.length : Int)
  · replace HS9 := Lib.hid (HS9.out.trans (if_pos hc))
    obtain ⟨c1, c2, c3⟩ := hc
    rw [c1] at t17
    obtain ⟨i, hi⟩ : ∃ i : Nat, x.bg = (i : Int) := ⟨x.bg.toNat, by omega⟩
    rw [hi, Int.toNat_natCast] at HS9
    have hiR : i < R.length := by omega
    obtain ⟨g, of, e1, e2, e3, e4, e5⟩ := (HS.out y _ HM.out).2.at (by omega)
    subst e1
    rw [hi] at c2 c3
    have hz := hst (R.getD i 0) (by rw [List.getD_eq_getElem?_getD, List.getElem?_eq_getElem hiR]; exact List.getElem_mem hiR)
    have gz : W1.cell? ⟨g, of + i, none⟩ = some (.int .i64 (R.getD i 0)) := e5 i _ (Des.ints_at R i hiR)
    have HGZ : Hid (g ∉ vs l ∨ True) := Lib.hid (Or.inr trivial)
    have HRW : Hid (∀ W', Mm B W' { l with x := y } { s with d := y.pl } → W'.cell? ⟨g, of + i, none⟩ = some (.int .i64 (R.getD i 0))) := Lib.hid fun W' hm => by
      obtain ⟨g2, o2, k1, _, _, _, k5⟩ := (HS.out y _ hm).2.at (by omega)
      cases k1
      exact k5 i _ (Des.ints_at R i hiR)
    generalize R.getD i 0 = z at *
    have hzw : wrap64 (z - 1) = z - 1 := IntWalk.wrap64_in _ (by omega)
    have hzw2 : IntKind.i64.wrap (z - 1) = z - 1 := IntWalk.i64_in _ (by omega)
    go_upto_region 3 with (fail)
    replace HM := Lib.hid (HM.out.below (Below.refl _ _).drew)
    replace HT := Lib.hid (Des.At.drew HT.out)
    replace HK := Lib.hid (Des.At.drew HK.out)
    clear t17 gz
    have HKd := HM
    have t0 := HT.out.cell 0 (.pointer (some ⟨l.M, 0, none⟩)) (by rw [HCS.out]; rfl); have d0 : W1.drew.cell? ⟨K, 0, none⟩ = some (.int .i64 (f : Int)) := (by rw [← HD.out]; exact HK.out.cell 0 _ rfl); have mH : W1.drew.cell? ⟨l.M, 27, none⟩ = some (.slice (some ⟨l.H, 0, none⟩) s.fs.length s.fs.length) := HM.out.cH; have gz := HRW.out _ HM.out; obtain ⟨⟨g0, g1⟩, g2, g3, g4⟩ := HH.out y _ HM.out
    have e1 : ¬ T = l.H := fun e => vT (by rw [e]; exact (mvs l).2.2.2.2.2.1)
    have e2 : ¬ l.H = T := fun e => e1 e.symm
    have e3 : ¬ l.M = l.H := HM0.out.ne.1.2.2.2.2.1
    have e4 : ¬ l.H = l.M := fun e => e3 e.symm
    have e5 : ¬ K = l.H := fun e => vK (by rw [e]; exact (mvs l).2.2.2.2.2.1)
    have e6 : ¬ l.H = K := fun e => e5 e.symm
    have e7 : ¬ g = l.H := HSB.out g of rfl
    have e8 : ¬ l.H = g := fun e => e7 e.symm
    refine wp_region_held_drew (S := fun w' => w'.cell? ⟨T, 0, none⟩ = some (.pointer (some ⟨l.M, 0, none⟩)) ∧ w'.cell? ⟨K, 0, none⟩ = some (.int .i64 (f : Int)) ∧ w'.cell? ⟨l.M, 27, none⟩ = some (.slice (some ⟨l.H, 0, none⟩) s.fs.length s.fs.length) ∧ w'.cell? ⟨g, of + i, none⟩ = some (.int .i64 z)) (by kernel_rfl) (by (try dsimp only); go_keep) (fun hHeld => ?_)
    refine wpAnyH_take (i := 0) (oi := { dst := some 36, op := Op.fieldAddr 122 (Operand.tmp 0) 0, type := 0, pos := "verify.go:290", after := #[], guard := none }) (v := ?_) rfl (by kernel_rfl) (by kernel_rfl) (by kernel_rfl) (fun _ _ _ h => h) (Or.inl ⟨by rfl, ?_⟩) (by assumption) ?_
    rotate_left
    focus ((intro w hSw; (try dsimp only at hSw); go_simp) <;> (try with_reducible rfl))
    try simp only [Act.put, List.setIfInBounds_toArray, List.set_cons_zero, List.set_cons_succ]
    refine wpAnyH_take (i := 1) (oi := { dst := some 37, op := Op.load 76 (Operand.tmp 36), type := 76, pos := "verify.go:290", after := #[{ on := 0, ground := Ground.data }], guard := none }) (v := ?_) rfl (by kernel_rfl) (by kernel_rfl) (by kernel_rfl) (fun _ _ _ h => h) (Or.inl ⟨by rfl, ?_⟩) (by assumption) ?_
    rotate_left
    focus ((intro w hSw; (try dsimp only at hSw); go_simp) <;> (try with_reducible rfl))
    try simp only [Act.put, List.setIfInBounds_toArray, List.set_cons_zero, List.set_cons_succ]
    refine wpAnyH_take (i := 2) (oi := { dst := some 38, op := Op.nilCheck (Operand.tmp 37), type := 0, pos := "verify.go:290", after := #[{ on := 1, ground := Ground.data }], guard := none }) (v := ?_) rfl (by kernel_rfl) (by kernel_rfl) (by kernel_rfl) (fun _ _ _ h => h) (Or.inl ⟨by rfl, ?_⟩) (by assumption) ?_
    rotate_left
    focus ((intro w hSw; (try dsimp only at hSw); go_simp) <;> (try with_reducible rfl))
    try simp only [Act.put, List.setIfInBounds_toArray, List.set_cons_zero, List.set_cons_succ]
    refine wpAnyH_take (i := 3) (oi := { dst := some 39, op := Op.fieldAddr 86 (Operand.tmp 38) 6, type := 0, pos := "verify.go:290", after := #[{ on := 2, ground := Ground.data }], guard := none }) (v := ?_) rfl (by kernel_rfl) (by kernel_rfl) (by kernel_rfl) (fun _ _ _ h => h) (Or.inl ⟨by rfl, ?_⟩) (by assumption) ?_
    rotate_left
    focus ((intro w hSw; (try dsimp only at hSw); go_simp) <;> (try with_reducible rfl))
    try simp only [Act.put, List.setIfInBounds_toArray, List.set_cons_zero, List.set_cons_succ]
    refine wpAnyH_take (i := 4) (oi := { dst := some 40, op := Op.load 50 (Operand.tmp 39), type := 50, pos := "verify.go:290", after := #[{ on := 3, ground := Ground.data }], guard := none }) (v := ?_) rfl (by kernel_rfl) (by kernel_rfl) (by kernel_rfl) (fun _ _ _ h => h) (Or.inl ⟨by rfl, ?_⟩) (by assumption) ?_
    rotate_left
    focus ((intro w hSw; (try dsimp only at hSw); go_simp) <;> (try with_reducible rfl))
    try simp only [Act.put, List.setIfInBounds_toArray, List.set_cons_zero, List.set_cons_succ]
    refine wpAnyH_take (i := 5) (oi := { dst := some 41, op := Op.fieldAddr 126 (Operand.tmp 2) 0, type := 0, pos := "verify.go:290", after := #[], guard := none }) (v := ?_) rfl (by kernel_rfl) (by kernel_rfl) (by kernel_rfl) (fun _ _ _ h => h) (Or.inl ⟨by rfl, ?_⟩) (by assumption) ?_
    rotate_left
    focus ((intro w hSw; (try dsimp only at hSw); go_simp) <;> (try with_reducible rfl))
    try simp only [Act.put, List.setIfInBounds_toArray, List.set_cons_zero, List.set_cons_succ]
    refine wpAnyH_take (i := 6) (oi := { dst := some 42, op := Op.load 3 (Operand.tmp 41), type := 3, pos := "verify.go:290", after := #[{ on := 5, ground := Ground.data }], guard := none }) (v := ?_) rfl (by kernel_rfl) (by kernel_rfl) (by kernel_rfl) (fun _ _ _ h => h) (Or.inl ⟨by rfl, ?_⟩) (by assumption) ?_
    rotate_left
    focus ((intro w hSw; (try dsimp only at hSw); go_simp) <;> (try with_reducible rfl))
    try simp only [Act.put, List.setIfInBounds_toArray, List.set_cons_zero, List.set_cons_succ]
    refine wpAnyH_take (i := 7) (oi := { dst := some 43, op := Op.fieldAddr 122 (Operand.tmp 0) 0, type := 0, pos := "verify.go:290", after := #[], guard := none }) (v := ?_) rfl (by kernel_rfl) (by kernel_rfl) (by kernel_rfl) (fun _ _ _ h => h) (Or.inl ⟨by rfl, ?_⟩) (by assumption) ?_
    rotate_left
    focus ((intro w hSw; (try dsimp only at hSw); go_simp) <;> (try with_reducible rfl))
    try simp only [Act.put, List.setIfInBounds_toArray, List.set_cons_zero, List.set_cons_succ]
    refine wpAnyH_take (i := 8) (oi := { dst := some 44, op := Op.load 76 (Operand.tmp 43), type := 76, pos := "verify.go:290", after := #[{ on := 7, ground := Ground.data }], guard := none }) (v := ?_) rfl (by kernel_rfl) (by kernel_rfl) (by kernel_rfl) (fun _ _ _ h => h) (Or.inl ⟨by rfl, ?_⟩) (by assumption) ?_
    rotate_left
    focus ((intro w hSw; (try dsimp only at hSw); go_simp) <;> (try with_reducible rfl))
    try simp only [Act.put, List.setIfInBounds_toArray, List.set_cons_zero, List.set_cons_succ]
    refine wpAnyH_take (i := 9) (oi := { dst := some 45, op := Op.nilCheck (Operand.tmp 44), type := 0, pos := "verify.go:290", after := #[{ on := 8, ground := Ground.data }], guard := none }) (v := ?_) rfl (by kernel_rfl) (by kernel_rfl) (by kernel_rfl) (fun _ _ _ h => h) (Or.inl ⟨by rfl, ?_⟩) (by assumption) ?_
    rotate_left
    focus ((intro w hSw; (try dsimp only at hSw); go_simp) <;> (try with_reducible rfl))
    try simp only [Act.put, List.setIfInBounds_toArray, List.set_cons_zero, List.set_cons_succ]
    refine wpAnyH_take (i := 10) (oi := { dst := some 46, op := Op.fieldAddr 86 (Operand.tmp 45) 6, type := 0, pos := "verify.go:290", after := #[{ on := 9, ground := Ground.data }], guard := none }) (v := ?_) rfl (by kernel_rfl) (by kernel_rfl) (by kernel_rfl) (fun _ _ _ h => h) (Or.inl ⟨by rfl, ?_⟩) (by assumption) ?_
    rotate_left
    focus ((intro w hSw; (try dsimp only at hSw); go_simp) <;> (try with_reducible rfl))
    try simp only [Act.put, List.setIfInBounds_toArray, List.set_cons_zero, List.set_cons_succ]
    refine wpAnyH_take (i := 11) (oi := { dst := some 47, op := Op.load 50 (Operand.tmp 46), type := 50, pos := "verify.go:290", after := #[{ on := 10, ground := Ground.data }], guard := none }) (v := ?_) rfl (by kernel_rfl) (by kernel_rfl) (by kernel_rfl) (fun _ _ _ h => h) (Or.inl ⟨by rfl, ?_⟩) (by assumption) ?_
    rotate_left
    focus ((intro w hSw; (try dsimp only at hSw); go_simp) <;> (try with_reducible rfl))
    try simp only [Act.put, List.setIfInBounds_toArray, List.set_cons_zero, List.set_cons_succ]
    refine wpAnyH_take (i := 12) (oi := { dst := some 48, op := Op.fieldAddr 126 (Operand.tmp 2) 0, type := 0, pos := "verify.go:290", after := #[], guard := none }) (v := ?_) rfl (by kernel_rfl) (by kernel_rfl) (by kernel_rfl) (fun _ _ _ h => h) (Or.inl ⟨by rfl, ?_⟩) (by assumption) ?_
    rotate_left
    focus ((intro w hSw; (try dsimp only at hSw); go_simp) <;> (try with_reducible rfl))
    try simp only [Act.put, List.setIfInBounds_toArray, List.set_cons_zero, List.set_cons_succ]
    refine wpAnyH_take (i := 13) (oi := { dst := some 49, op := Op.load 3 (Operand.tmp 48), type := 3, pos := "verify.go:290", after := #[{ on := 12, ground := Ground.data }], guard := none }) (v := ?_) rfl (by kernel_rfl) (by kernel_rfl) (by kernel_rfl) (fun _ _ _ h => h) (Or.inl ⟨by rfl, ?_⟩) (by assumption) ?_
    rotate_left
    focus ((intro w hSw; (try dsimp only at hSw); go_simp) <;> (try with_reducible rfl))
    try simp only [Act.put, List.setIfInBounds_toArray, List.set_cons_zero, List.set_cons_succ]
    refine wpAnyH_take (i := 14) (oi := { dst := some 50, op := Op.indexAddr 50 (Operand.tmp 47) (Operand.tmp 49), type := 0, pos := "verify.go:290", after := #[{ on := 11, ground := Ground.data }, { on := 13, ground := Ground.data }], guard := none }) (v := ?_) rfl (by kernel_rfl) (by kernel_rfl) (by kernel_rfl) (fun _ _ _ h => h) (Or.inl ⟨by rfl, ?_⟩) (by assumption) ?_
    rotate_left
    focus ((intro w hSw; (try dsimp only at hSw); go_simp) <;> (try with_reducible rfl))
    try simp only [Act.put, List.setIfInBounds_toArray, List.set_cons_zero, List.set_cons_succ]
    refine wpAnyH_take (i := 16) (oi := { dst := some 52, op := Op.move (Operand.tmp 3), type := 22, pos := "verify.go:290", after := #[], guard := none }) (v := ?_) rfl (by kernel_rfl) (by kernel_rfl) (by kernel_rfl) (fun _ _ _ h => h) (Or.inl ⟨by rfl, ?_⟩) (by assumption) ?_
    rotate_left
    focus ((intro w hSw; (try dsimp only at hSw); go_simp) <;> (try with_reducible rfl))
    try simp only [Act.put, List.setIfInBounds_toArray, List.set_cons_zero, List.set_cons_succ]
    refine wpAnyH_take (i := 17) (oi := { dst := some 53, op := Op.move (Operand.tmp 4), type := 3, pos := "verify.go:290", after := #[], guard := none }) (v := ?_) rfl (by kernel_rfl) (by kernel_rfl) (by kernel_rfl) (fun _ _ _ h => h) (Or.inl ⟨by rfl, ?_⟩) (by assumption) ?_
    rotate_left
    focus ((intro w hSw; (try dsimp only at hSw); go_simp) <;> (try with_reducible rfl))
    try simp only [Act.put, List.setIfInBounds_toArray, List.set_cons_zero, List.set_cons_succ]
    refine wpAnyH_take (i := 18) (oi := { dst := some 54, op := Op.indexAddr 22 (Operand.tmp 52) (Operand.tmp 53), type := 0, pos := "verify.go:290", after := #[{ on := 16, ground := Ground.data }, { on := 17, ground := Ground.data }], guard := none }) (v := ?_) rfl (by kernel_rfl) (by kernel_rfl) (by kernel_rfl) (fun _ _ _ h => h) (Or.inl ⟨by rfl, ?_⟩) (by assumption) ?_
    rotate_left
    focus ((intro w hSw; (try dsimp only at hSw); go_simp) <;> (try with_reducible rfl))
    try simp only [Act.put, List.setIfInBounds_toArray, List.set_cons_zero, List.set_cons_succ]
    refine wpAnyH_take (i := 19) (oi := { dst := some 55, op := Op.load 3 (Operand.tmp 54), type := 3, pos := "verify.go:290", after := #[{ on := 18, ground := Ground.data }], guard := none }) (v := ?_) rfl (by kernel_rfl) (by kernel_rfl) (by kernel_rfl) (fun _ _ _ h => h) (Or.inl ⟨by rfl, ?_⟩) (by assumption) ?_
    rotate_left
    focus ((intro w hSw; (try dsimp only at hSw); go_simp) <;> (try with_reducible rfl))
    try simp only [Act.put, List.setIfInBounds_toArray, List.set_cons_zero, List.set_cons_succ]
    refine wpAnyH_take (i := 20) (oi := { dst := some 56, op := Op.binOp BinOp.sub 3 (Operand.tmp 55) (Operand.const (Value.int IntKind.i64 1)) 3, type := 3, pos := "verify.go:290", after := #[{ on := 19, ground := Ground.data }], guard := none }) (v := ?_) rfl (by kernel_rfl) (by kernel_rfl) (by kernel_rfl) (fun _ _ _ h => h) (Or.inl ⟨by rfl, ?_⟩) (by assumption) ?_
    rotate_left
    focus ((intro w hSw; (try dsimp only at hSw); go_simp) <;> (try with_reducible rfl))
    try simp only [Act.put, List.setIfInBounds_toArray, List.set_cons_zero, List.set_cons_succ]
    refine wpAnyH_ready (rs := [15]) (by kernel_rfl) (by simp) ?_
    refine AllReadyH.cons (o := { dst := some 51, op := Op.load 57 (Operand.tmp 50), type := 57, pos := "verify.go:290", after := #[{ on := 14, ground := Ground.data }], guard := none }) rfl (fun KQ hKQ => ?_) AllReadyH.nil
    go_simp
    refine hKQ.out _ _ (by (try dsimp only); go_keep) (fun hHeld => ?_)
    clear hKQ KQ
    try simp only [Act.put, List.setIfInBounds_toArray, List.set_cons_zero, List.set_cons_succ]
    refine wpAnyH_ready (rs := [21]) (by kernel_rfl) (by simp) ?_
    refine AllReadyH.cons (o := { dst := some 57, op := Op.call { callee := Callee.value (Operand.func 105), args := #[Operand.tmp 51, Operand.tmp 56], argTypes := #[57, 3] }, type := 57, pos := "verify.go:290", after := #[{ on := 15, ground := Ground.data }, { on := 20, ground := Ground.data }], guard := none }) rfl (fun KQ hKQ => ?_) AllReadyH.nil
    go_simp
    go_at_call 105; refine (HCH.out y _ _ HM.out).mono ?_; rintro e w3 ⟨a', c', rfl, hs, hb⟩; have HSR := Lib.hid hs; have HBB := Lib.hid hb; replace HT := Lib.hid (HT.out.below hb HT.out.hi); replace HK := Lib.hid (HK.out.below hb HK.out.hi); replace HM := Lib.hid (HM.out.below hb); clear hs hb t0 d0 mH gz g0 g1 g2 g3 g4; have t0 := HT.out.cell 0 (.pointer (some ⟨l.M, 0, none⟩)) (by rw [HCS.out]; rfl); have d0 : w3.cell? ⟨K, 0, none⟩ = some (.int .i64 (f : Int)) := (by rw [← HD.out]; exact HK.out.cell 0 _ rfl); have mH : w3.cell? ⟨l.M, 27, none⟩ = some (.slice (some ⟨l.H, 0, none⟩) s.fs.length s.fs.length) := HM.out.cH; have gz := HRW.out _ HM.out; obtain ⟨⟨g0, g1⟩, g2, g3, g4⟩ := HH.out y _ HM.out
    go_wp2_with fail
    refine hKQ.out _ _ (by (try dsimp only); go_keep) (fun hHeld => ?_)
    clear hKQ KQ
    try simp only [Act.put, List.setIfInBounds_toArray, List.set_cons_zero, List.set_cons_succ]
    refine wpAnyH_take (i := 22) (oi := { dst := some 58, op := Op.indexAddr 50 (Operand.tmp 40) (Operand.tmp 42), type := 0, pos := "verify.go:290", after := #[{ on := 4, ground := Ground.data }, { on := 6, ground := Ground.data }, { on := 0, ground := Ground.phase }, { on := 1, ground := Ground.phase }, { on := 2, ground := Ground.phase }, { on := 3, ground := Ground.phase }, { on := 4, ground := Ground.phase }, { on := 5, ground := Ground.phase }, { on := 6, ground := Ground.phase }, { on := 7, ground := Ground.phase }, { on := 8, ground := Ground.phase }, { on := 9, ground := Ground.phase }, { on := 10, ground := Ground.phase }, { on := 11, ground := Ground.phase }, { on := 12, ground := Ground.phase }, { on := 13, ground := Ground.phase }, { on := 14, ground := Ground.phase }, { on := 15, ground := Ground.phase }, { on := 16, ground := Ground.phase }, { on := 17, ground := Ground.phase }, { on := 18, ground := Ground.phase }, { on := 19, ground := Ground.phase }, { on := 20, ground := Ground.phase }, { on := 21, ground := Ground.phase }], guard := none }) (v := ?_) rfl (by kernel_rfl) (by kernel_rfl) (by kernel_rfl) (fun _ _ _ h => h) (Or.inl ⟨by rfl, ?_⟩) (by assumption) ?_
    rotate_left
    focus ((intro w hSw; (try dsimp only at hSw); go_simp) <;> (try with_reducible rfl))
    try simp only [Act.put, List.setIfInBounds_toArray, List.set_cons_zero, List.set_cons_succ]
    refine wpAnyH_ready (rs := [23]) (by kernel_rfl) (by simp) ?_
    refine AllReadyH.cons (o := { dst := none, op := Op.store 57 (Operand.tmp 58) (Operand.tmp 57), type := 0, pos := "verify.go:290", after := #[{ on := 22, ground := Ground.data }, { on := 21, ground := Ground.data }, { on := 21, ground := Ground.chain }, { on := 0, ground := Ground.phase }, { on := 1, ground := Ground.phase }, { on := 2, ground := Ground.phase }, { on := 3, ground := Ground.phase }, { on := 4, ground := Ground.phase }, { on := 5, ground := Ground.phase }, { on := 6, ground := Ground.phase }, { on := 7, ground := Ground.phase }, { on := 8, ground := Ground.phase }, { on := 9, ground := Ground.phase }, { on := 10, ground := Ground.phase }, { on := 11, ground := Ground.phase }, { on := 12, ground := Ground.phase }, { on := 13, ground := Ground.phase }, { on := 14, ground := Ground.phase }, { on := 15, ground := Ground.phase }, { on := 16, ground := Ground.phase }, { on := 17, ground := Ground.phase }, { on := 18, ground := Ground.phase }, { on := 19, ground := Ground.phase }, { on := 20, ground := Ground.phase }, { on := 21, ground := Ground.phase }], guard := none }) rfl (fun KQ hKQ => ?_) AllReadyH.nil
    go_simp
    refine hKQ.out _ _ (by (try dsimp only); go_keep) (fun hHeld => ?_)
    clear hKQ KQ
    try simp only [Act.put, List.setIfInBounds_toArray, List.set_cons_zero, List.set_cons_succ]
    refine wpAnyH_done (by kernel_rfl) ?_ _
    go_wp2_with fail
    go_end0
    refine ⟨y, l.ar, l.hs.set f ⟨a', c'⟩, rfl, ?_, ((HV.out.trans (Vk.ofBelow (Below.refl _ _).drew)).trans (Vk.ofBelow HBB.out)).trans ((Vk.set _ _ _ _ (mvs l).2.2.2.2.2.1).trans (Vk.set _ _ _ _ (mvs l).2.2.2.2.2.1))⟩
    have hput := HM.out.putH f HFH.out a' c' L (Con.syncV L.length q (z - 1)) (Con.StrRow.mono HSR.out (Nat.zero_le _)) (fun q hq hm => by
      rcases HSR.out with ⟨h2, _⟩ | ⟨g, h2, h3, _⟩
      · rw [h2] at hq; cases hq
      · rw [h2] at hq; cases hq
        have h1 : g < W1.drew.heap.size := HKd.out.hix _ hm
        omega)
    rw [HS9.out]
    exact hput
  · replace HS9 := Lib.hid (HS9.out.trans (if_neg hc))
    have HC9 := Lib.hid hc
    clear hc
    have hfin : Hid (∃ x' ar' hs', (Ending.returned (.tuple #[]) : Ending) = .returned (.tuple #[]) ∧ Mm B W1 { l with x := x', ar := ar', hs := hs' } s9 ∧ Vk (vs l) W W1) := Lib.hid ⟨y, l.ar, l.hs, rfl, by rw [HS9.out]; exact HM.out, HV.out⟩
    by_cases c1 : x.er = 0
    · rw [c1] at t17
      by_cases c2 : 0 ≤ x.bg
      · have c3 : ¬ x.bg < (R.length : Int) := fun e => HC9.out ⟨c1, c2, e⟩
        clear c1
        go_wp2_with fail
        go_end0
        (obtain ⟨x', ar', hs', _, h1, h2⟩ := hfin.out; first | exact ⟨x', ar', hs', rfl, h1, h2⟩ | exact ⟨rfl, ⟨x', ar', hs', h1⟩, h2⟩)
      · have c2' : x.bg < 0 := by omega
        clear c1
        go_wp2_with fail
        go_end0
        (obtain ⟨x', ar', hs', _, h1, h2⟩ := hfin.out; first | exact ⟨x', ar', hs', rfl, h1, h2⟩ | exact ⟨rfl, ⟨x', ar', hs', h1⟩, h2⟩)
    · have c1' : (x.er == 0) = false := by simpa using c1
      go_wp2_with fail
      go_end0
      (obtain ⟨x', ar', hs', _, h1, h2⟩ := hfin.out; first | exact ⟨x', ar', hs', rfl, h1, h2⟩ | exact ⟨rfl, ⟨x', ar', hs', h1⟩, h2⟩)
end Go.Proofs.YtimhaidiclbnhaaGreat.Ver
