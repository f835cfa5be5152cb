/- Layer 46, shared texts of this seat, part 34. -/
import Derived.Test.YtimhaidiclbnhaaGreatM33
import Derived.Test.YtimhaidiclbnhaaGreatM15
/- Layer 46: the plans of unmap. -/
set_option linter.unusedSimpArgs false
set_option linter.unusedVariables false
set_option maxRecDepth 100000
namespace Go.Proofs.YtimhaidiclbnhaaGreat.Ver
open Go.ChangeShapes Go.WideShapes Go.ChangeAt Go.RowKit
open Des (Dv De Dn DIn DBlk DAns Vi At RowOf ints DSz)
open Ara (Ar ARow)
open Con (StrRow)

theorem heap_sets {b k : Nat} (hk : k ≠ b) : ∀ (us : List Value) (o : Nat) (w : World), (w.setCells b o us).heap[k]? = w.heap[k]?
  | [], _, _ => rfl
  | u :: us, o, w => (heap_sets hk us (o + 1) (w.setCell ⟨b, o, none⟩ u)).trans (Below.heap_setCell w ⟨b, o, none⟩ u k hk)
theorem arow_sets {b : Nat} {B c : Nat} {a : Option Addr} {L : List Ar} {w : World} (h : ARow B a c L w) (us : List Value) (hb : ∀ q, a = some q → q.block ≠ b) : ARow B a c L (w.setCells b 0 us) :=
  arow_keep h (by rw [Des.size_cells]; exact Nat.le_refl _) fun q hq => heap_sets (hb q hq) us 0 w
theorem arow_lo {B c : Nat} {a : Option Addr} {L : List Ar} {w : World} (h : ARow B a c L w) : ∀ q, a = some q → B ≤ q.block := fun q hq => by
  rcases h with ⟨h1, _⟩ | ⟨g, h1, h2, _⟩
  · rw [h1] at hq; cases hq
  · rw [h1] at hq; cases hq; exact h2
theorem ar_after {W1 w2 : World} {c : Nat} {a : Option Addr} {L : List Ar} (h : ARow W1.drew.heap.size a c L w2) (o : Obj) : ARow W1.heap.size a c L (w2.alloc o) := Ara.ARow.below h ((Below.refl _ _).alloc (Nat.le_refl _) o)
theorem ar_before {W1 w2 : World} {zs : List Value} {T : TypeId} {c : Nat} {a : Option Addr} {L : List Ar} (h : ARow (W1.alloc (.cells zs.toArray T)).drew.heap.size a c L w2) (us : List Value) : ARow W1.heap.size a c L (w2.setCells W1.heap.size 0 us) := by
  have e : (W1.alloc (.cells zs.toArray T)).drew.heap.size = W1.heap.size + 1 := Des.alloc_size _ _
  rw [e] at h
  exact Ara.ARow.mono (arow_sets h us fun q hq => by have := arow_lo h q hq; omega) (by omega)
def unmapR (s : St) (p : Nat) (o : Opr) : Res × St :=
  if (Ara.unmapV (s.ar.getD p []) o.pg o.len).2 ≠ 0 then (badR (Ara.unmapV (s.ar.getD p []) o.pg o.len).2, s) else (⟨0, 0, ⟨#[]⟩⟩, { s with ar := s.ar.set p (Ara.unmapV (s.ar.getD p []) o.pg o.len).1 })
set_option maxHeartbeats 8000000 in
theorem unmap_any (B : Nat) (l : Ly) (s : St) (p : Nat) (o : Opr) (x : Ev) (W : World) (h : Mm B W l s) (hp : p < s.ar.length) (hps : p < s.scr.length) (hn : s.scr.length ≤ 1000) (hal : (s.ar.getD p []).length ≤ 100) :
    Calls Tryz.prog 74 #[stepV l.M (p : Int) o x] W (PlanP B W l s (unmapR s p o).1 (unmapR s p o).2) := by
  obtain ⟨a0, c0, hsl⟩ : ∃ a c, l.ar.getD p Sl.nil = ⟨a, c⟩ := ⟨_, _, rfl⟩
  obtain ⟨TD, TE, hte⟩ : ∃ TD TE, Ara.unmapV (s.ar.getD p []) o.pg o.len = (TD, TE) := ⟨_, _, rfl⟩
  have HC : Hid (∀ W', Below W.heap.size W W' → Calls Tryz.prog 109 #[.slice a0 (s.ar.getD p []).length c0, .int .i64 o.pg, .int .i64 o.len] W' (fun e w' => ∃ b c, e = .returned (.tuple #[.slice b TD.length c, .int .i64 TE]) ∧ ARow W'.heap.size b c TD w' ∧ Below W'.heap.size W' w')) := Lib.hid fun W' hb => by
    have h1 := (h.below hb).im.ra p hp
    rw [hsl] at h1
    have h2 := Ara.unmap_any 0 a0 (s.ar.getD p []) c0 o.pg o.len W' h1.1 hal
    rw [hte] at h2
    exact h2
  have HR : Hid (∀ W', Mm B W' l s → W'.cell? ⟨l.R, p, none⟩ = some (.slice a0 (s.ar.getD p []).length c0)) := Lib.hid fun W' hm => by
    have h1 := hm.r.cell p _ (slC_at l.ar s.ar p hp)
    rw [hsl] at h1
    exact h1
  have HM := Lib.hid h
  have HE : Hid (unmapR s p o = if (Ara.unmapV (s.ar.getD p []) o.pg o.len).2 ≠ 0 then (badR (Ara.unmapV (s.ar.getD p []) o.pg o.len).2, s) else (⟨0, 0, ⟨#[]⟩⟩, { s with ar := s.ar.set p (Ara.unmapV (s.ar.getD p []) o.pg o.len).1 })) := Lib.hid rfl
  rw [hte] at HE
  simp only at HE
  have HX := Lib.hid (Bx2.start W (stepC l.M (p : Int) o x) [.int .i64 0, .int .i64 0, .string ⟨#[]⟩, .nilFunc] 122 114)
  have hmf : ∀ (fn : Fn) (first cap : Array Value) (w : World), (Instr.makeFunc fn first cap).run Tryz.prog w = .ok (.func fn first cap) w := fun _ _ _ _ => rfl
  have hmf' := Lib.hid hmf
  unfold stepV
  obtain ⟨cs, hcs⟩ : ∃ cs, cs = stepC l.M (p : Int) o x := ⟨_, rfl⟩
  have HCS := Lib.hid hcs
  rw [← hcs] at HX ⊢
  have hpI : (p : Int) < (s.scr.length : Int) := by omega
  have hnI : (s.scr.length : Int) ≤ 1000 := by omega
  clear hcs h hsl hte hmf
  generalize (s.ar.getD p []).length = la at *
  generalize unmapR s p o = PR at *
  go_enter Tryz.func74, Tryz.ntmps74
  go_upto_region 1 with (fail)
  generalize World.alloc _ (Obj.cells #[.int .i64 0, .int .i64 0, .string ⟨#[]⟩, .nilFunc] 114) = W1 at *
  have HM1 := Lib.hid (HM.out.below HX.out.bel)
  have HR1 : Hid (W.heap.size + 1 < W1.heap.size) := Lib.hid HX.out.r.hi
  go_cut [3, 4] (fun s3 s4 wx => ∃ (K : Nat) (b : Option Addr) (c : Nat), s3 = .pointer (some ⟨K, 0, none⟩) ∧ s4 = .int .i64 TE ∧ Hid (Nb W1 wx K [.slice b TD.length c]) ∧ Hid (ARow W1.heap.size b c TD wx))
  case first =>
    have HX0 := HX
    replace HX := Lib.hid (HX.out.below (Below.refl _ _).drew)
    have hT : W.heap.size < W1.heap.size := HX0.out.t.hi
    have hM : l.M < W1.heap.size := (HM.out.below HX0.out.bel).m.hi
    have e1 : ¬ W1.heap.size = W.heap.size := by omega
    have e2 : ¬ W.heap.size = W1.heap.size := by omega
    have e3 : ¬ W1.heap.size = l.M := by omega
    have e4 : ¬ l.M = W1.heap.size := by omega
    have hm1 : l.R < W1.heap.size := HM1.out.hi _ (by simp [vs])
    have f1a : ¬ W1.heap.size = l.R := by omega
    have f1b : ¬ l.R = W1.heap.size := by omega
    have yt0 := HX0.out.t.cell 0 (.pointer (some ⟨l.M, 0, none⟩)) (by rw [HCS.out]; rfl); have yt1 := HX0.out.t.cell 1 (.int .i64 (p : Int)) (by rw [HCS.out]; rfl); have yt7 := HX0.out.t.cell 7 (.int .i64 o.len) (by rw [HCS.out]; rfl); have yt8 := HX0.out.t.cell 8 (.int .i64 o.pg) (by rw [HCS.out]; rfl); have ymR := (HM.out.below HX0.out.bel).cR; have ya := HR.out _ (HM.out.below HX0.out.bel)
    have t0 := HX.out.t.cell 0 (.pointer (some ⟨l.M, 0, none⟩)) (by rw [HCS.out]; rfl); have t1 := HX.out.t.cell 1 (.int .i64 (p : Int)) (by rw [HCS.out]; rfl); have t7 := HX.out.t.cell 7 (.int .i64 o.len) (by rw [HCS.out]; rfl); have t8 := HX.out.t.cell 8 (.int .i64 o.pg) (by rw [HCS.out]; rfl); have mR := (HM.out.below HX.out.bel).cR; have a := HR.out _ (HM.out.below HX.out.bel)
    go_region_held3 (fun w' => w'.cell? ⟨W.heap.size, 0, none⟩ = some (.pointer (some ⟨l.M, 0, none⟩)) ∧ w'.cell? ⟨W.heap.size, 1, none⟩ = some (.int .i64 (p : Int)) ∧ w'.cell? ⟨W.heap.size, 7, none⟩ = some (.int .i64 o.len) ∧ w'.cell? ⟨W.heap.size, 8, none⟩ = some (.int .i64 o.pg) ∧ w'.cell? ⟨l.M, 26, none⟩ = some (.slice (some ⟨l.R, 0, none⟩) s.scr.length s.scr.length) ∧ w'.cell? ⟨l.R, p, none⟩ = some (.slice a0 la c0)) (go_keep) (first | (go_at_call 109; refine (HC.out _ (by first | exact HX.out.bel | exact (HX.out.below ((Below.refl _ _).alloc (Nat.le_refl _) _)).bel)).mono ?_; rintro e w2 ⟨b, c, rfl, hrow, hb⟩; have HW := Lib.hid hrow; clear hrow; (first | (have HA := Lib.hid hb; replace HX := Lib.hid (HX.out.below hb)) | (have HB := Lib.hid hb; obtain ⟨_, f0, fh⟩ := At.one (((At.new W1 [.slice none 0 0] 106).drew).below hb (by show W1.heap.size < (W1.alloc _).heap.size; rw [Des.alloc_size]; omega)); replace HX := Lib.hid ((HX.out.below ((Below.refl _ _).alloc (Nat.le_refl _) _)).below hb))); clear hb t0 t1 t7 t8 mR a; have t0 := HX.out.t.cell 0 (.pointer (some ⟨l.M, 0, none⟩)) (by rw [HCS.out]; rfl); have t1 := HX.out.t.cell 1 (.int .i64 (p : Int)) (by rw [HCS.out]; rfl); have t7 := HX.out.t.cell 7 (.int .i64 o.len) (by rw [HCS.out]; rfl); have t8 := HX.out.t.cell 8 (.int .i64 o.pg) (by rw [HCS.out]; rfl); have mR := (HM.out.below HX.out.bel).cR; have a := HR.out _ (HM.out.below HX.out.bel)))
    all_goals
      go_wp2_with fail
      go_meet
      first | exact ⟨_, b, c, rfl, rfl, Lib.hid (Nb.after ((Below.refl W1.heap.size W1).drew.trans HA.out) [.slice b TD.length c] 106), Lib.hid (ar_after HW.out _)⟩ | exact ⟨_, b, c, rfl, rfl, Lib.hid (Nb.before (T := 106) (zs := [.slice none 0 0]) ((Below.refl (W1.alloc _).heap.size (W1.alloc _)).drew.trans HB.out) [.slice b TD.length c] rfl), Lib.hid (ar_before HW.out [.slice b TD.length c])⟩
  case rest =>
  obtain ⟨K, b, c, rfl, rfl, HN, HW⟩ := hcut
  replace HX := Lib.hid (HX.out.below HN.out.bel)
  clear HC
  by_cases hu : TE = 0
  · subst hu
    obtain ⟨PR1, PR2⟩ := PR
    obtain ⟨rfl, rfl⟩ : PR1 = _ ∧ PR2 = _ := by have := HE.out.trans (if_neg (by simp)); exact ⟨congrArg Prod.fst this, congrArg Prod.snd this⟩
    clear HE
    replace hmf := hmf'.out
    have HSC : Hid (p < s.ar.length ∧ p < s.scr.length ∧ s.scr.length ≤ 1000) := Lib.hid ⟨hp, hps, hn⟩
    obtain ⟨_, ⟨r0, r1, r2, r3⟩, rh⟩ := At.four HX.out.r
    obtain ⟨rc0, rc1, rc2, rc3⟩ := (At.four HX.out.r).1
    go_wp2_with fail
    generalize hwB : (((wc.setCell ⟨W.heap.size + 1, 0, none⟩ (.int .i64 0)).setCell ⟨W.heap.size + 1, 1, none⟩ (.int .i64 0)).setCell ⟨W.heap.size + 1, 2, none⟩ (.string ⟨#[]⟩)).setCell ⟨W.heap.size + 1, 3, none⟩ (.func (.func 110) #[] #[.pointer (some ⟨K, 0, none⟩), .pointer (some ⟨W.heap.size, 0, none⟩)]) = w9 at *
    have HP : Bx2 W w9 W.heap.size (W.heap.size + 1) cs [.int .i64 0, .int .i64 0, .string ⟨#[]⟩, .func (.func 110) #[] #[.pointer (some ⟨K, 0, none⟩), .pointer (some ⟨W.heap.size, 0, none⟩)]] := by rw [← hwB]; exact HX.out.putR [.int .i64 0, .int .i64 0, .string ⟨#[]⟩, .func (.func 110) #[] #[.pointer (some ⟨K, 0, none⟩), .pointer (some ⟨W.heap.size, 0, none⟩)]] rfl
    skip
    have HAK : Hid (At w9 K [.slice b TD.length c]) := Lib.hid (by rw [← hwB]; exact HN.out.at'.apart (by have := HN.out.lo; have := HR1.out; omega) 0 [.int .i64 0, .int .i64 0, .string ⟨#[]⟩, .func (.func 110) #[] #[.pointer (some ⟨K, 0, none⟩), .pointer (some ⟨W.heap.size, 0, none⟩)]])
    have HAW : Hid (ARow 0 b c TD w9) := Lib.hid (by rw [← hwB]; exact arow_sets (Ara.ARow.mono HW.out (Nat.zero_le _)) [.int .i64 0, .int .i64 0, .string ⟨#[]⟩, .func (.func 110) #[] #[.pointer (some ⟨K, 0, none⟩), .pointer (some ⟨W.heap.size, 0, none⟩)]] (fun q hq => by have := arow_lo HW.out q hq; have := HR1.out; omega))
    clear r0 r1 r2 r3 rc0 rc1 rc2 rc3
    obtain ⟨⟨q0, q1, q2, q3⟩, _, _⟩ := At.four HP.r
    exact bodyPost_ret (v := .agg #[.int .i64 0, .int .i64 0, .string ⟨#[]⟩, .func (.func 110) #[] #[.pointer (some ⟨K, 0, none⟩), .pointer (some ⟨W.heap.size, 0, none⟩)]]) (by simp [results, Tryz.results74, go_sem, q0, q1, q2, q3]) rfl ⟨_, rfl, HP.bel, Or.inr ⟨110, _, rfl, fun _ _ => rfl, fun W2' hf2 => clo110 B l s p o x b c TD K W.heap.size W2' (hf2.mm HP.bel) HSC.out.1 HSC.out.2.1 HSC.out.2.2 (by rw [← HCS.out]; exact hf2.at HP.t HP.lo) (hf2.at HAK.out (by first | omega | (have := HKN.out; omega) | (have := HO.out.lo; have := HKh.out; have := HKN.out; omega) | (have := HO.out.lo; have := HR1.out; omega) | (have := HN.out.lo; have := HR1.out; omega) | (have := HKN.out; have := HKh.out; omega) | (have := HOl.out; have := HKh.out; have := HKN.out; omega) | (have := HKN.out; have := HR1.out; omega) | (have := HOl.out; omega) | (have := HN.out.lo; have := HOl.out; have := HR1.out; omega) | (have := HKh.out; have := HOl.out; have := HR1.out; omega))) (hf2.row HAW.out (fun q hq => by have := arow_lo HW.out q hq; first | (have := HR4.out; omega) | (have := HR1.out; omega))) (fun q hq hm => by have := HM.out.hix _ hm; have := arow_lo HW.out q hq; have := HR1.out; omega)⟩⟩
  · have hu' : (TE == 0) = false := by simpa using hu
    obtain ⟨PR1, PR2⟩ := PR
    obtain ⟨rfl, rfl⟩ : PR1 = _ ∧ PR2 = _ := by have := HE.out.trans (if_pos hu); exact ⟨congrArg Prod.fst this, congrArg Prod.snd this⟩
    clear HE
    go_wp2_with fail
    refine (bad_any TE _).mono ?_
    rintro e w5 ⟨rfl, hb⟩
    replace HX := Lib.hid (HX.out.below hb)
    clear hb
    obtain ⟨_, ⟨r0, r1, r2, r3⟩, rh⟩ := At.four HX.out.r
    obtain ⟨rc0, rc1, rc2, rc3⟩ := (At.four HX.out.r).1
    go_wp2_with fail
    generalize hwB : (((w5.setCell ⟨W.heap.size + 1, 0, none⟩ (.int .i64 TE)).setCell ⟨W.heap.size + 1, 1, none⟩ (.int .i64 0)).setCell ⟨W.heap.size + 1, 2, none⟩ (.string ⟨#[]⟩)).setCell ⟨W.heap.size + 1, 3, none⟩ (.nilFunc) = w9 at *
    have HP : Bx2 W w9 W.heap.size (W.heap.size + 1) cs [.int .i64 TE, .int .i64 0, .string ⟨#[]⟩, .nilFunc] := by rw [← hwB]; exact HX.out.putR [.int .i64 TE, .int .i64 0, .string ⟨#[]⟩, .nilFunc] rfl
    skip
    clear r0 r1 r2 r3 rc0 rc1 rc2 rc3
    obtain ⟨⟨q0, q1, q2, q3⟩, _, _⟩ := At.four HP.r
    exact bodyPost_ret (v := .agg #[.int .i64 TE, .int .i64 0, .string ⟨#[]⟩, .nilFunc]) (by simp [results, Tryz.results74, go_sem, q0, q1, q2, q3]) rfl ⟨_, rfl, HP.bel, Or.inl ⟨rfl, rfl⟩⟩
end Go.Proofs.YtimhaidiclbnhaaGreat.Ver
