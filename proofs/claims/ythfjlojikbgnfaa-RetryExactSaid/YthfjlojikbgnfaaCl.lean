/- slices.Clone at bunches that are repeated and at members; copies.Bunch, copies.Later. -/
import Derived.Test.YthfjlojikbgnfaaAr
import Derived.Shelf.SlicesE.Clone
import Derived.Ground.SlgnProg
namespace Go.Proofs.Ythfjlojikbgnfaa
open Go.ChangeShapes Go.WideShapes Go.ChangeAt Go.RowKit

def cloneRen : Go.Shelf.Ren := ⟨fun | 41 => 31 | n => n, fun | 22 => 34 | 23 => 40 | 4 => 4 | n => n, fun | n => n⟩
theorem cloneLaid : Go.Proofs.SlLaysE0.n41 Try.prog cloneRen := {
  mixed := by kernel_rfl
  f41 := ⟨Try.f31.name, by decide, Try.func31.trans (congrArg some (by kernel_rfl))⟩
  t4 := Try.underlying4
  a4 := Try.isAgg4
  z4 := Try.sizeOf4
  v4 := Try.zeroValue4
  t22 := Try.underlying34
  a22 := Try.isAgg34
  z22 := Try.sizeOf34
  v22 := Try.zeroValue34 }
def cloneRenM : Go.Shelf.Ren := ⟨fun | 41 => 35 | n => n, fun | 22 => 36 | 23 => 60 | 4 => 4 | n => n, fun | n => n⟩
theorem cloneLaidM : Go.Proofs.SlLaysE0.n41 Try.prog cloneRenM := {
  mixed := by kernel_rfl
  f41 := ⟨Try.f35.name, by decide, Try.func35.trans (congrArg some (by kernel_rfl))⟩
  t4 := Try.underlying4
  a4 := Try.isAgg4
  z4 := Try.sizeOf4
  v4 := Try.zeroValue4
  t22 := Try.underlying36
  a22 := Try.isAgg36
  z22 := Try.sizeOf36
  v22 := Try.zeroValue36 }
theorem clone_any (a : Option Addr) (l : List Ar) (cap : Nat) (w : World) (h : ARow w a cap l) (hl : l.length ≤ 10000) :
    Calls Try.prog 31 #[.slice a l.length cap] w fun e w' => ∃ v', e = .returned v' ∧ w'.ownsRow w.heap.size 40 11 v' l.length (flat l) ∧ Below w.heap.size w w' := by
  rcases h with ⟨rfl, h2, rfl⟩ | ⟨g, o, rfl, h2, h3, h4, h5⟩
  · have h3 := List.length_eq_zero_iff.1 h2
    subst h3
    refine (AnyE.slices_Clone_nil cloneLaid 0 0 w).mono ?_
    rintro e w' ⟨rfl, rfl⟩
    exact ⟨_, rfl, ⟨by simp [flat], Or.inl ⟨rfl, rfl⟩⟩, Below.refl _ _⟩
  · obtain ⟨i0, hi, hz0, hz1, hz2⟩ := info_parts area_info
    refine (AnyE.slices_Clone cloneLaid i0 _ 11 112 hi hz0 hz1 hz2 rfl (by decide) Try.sizeOf40 g o l.length cap (flat l) w (flat_len l) (by unfold maxLen; omega) (by omega) (fun j u hj => h5 j u hj) cells_one).mono ?_
    rintro e w' ⟨v', rfl, ho, _, hb⟩
    exact ⟨v', rfl, ho, hb⟩
theorem cloneM_any (a : Option Addr) (l : List Mb) (cap : Nat) (w : World) (h : RowOf w a l.length cap (mflat l)) (hl : l.length ≤ 5864062014805) :
    Calls Try.prog 35 #[.slice a l.length cap] w fun e w' => ∃ a' c', e = .returned (.slice a' l.length c') ∧ RowOf w' a' l.length c' (mflat l) ∧ (∀ q, a' = some q → w.heap.size ≤ q.block) ∧ Below w.heap.size w w' := by
  rcases h with ⟨rfl, h2, rfl⟩ | ⟨g, o, rfl, h2, h3, h4, h5⟩
  · rw [h2]
    refine (AnyE.slices_Clone_nil cloneLaidM 0 0 w).mono ?_
    rintro e w' ⟨rfl, rfl⟩
    exact ⟨none, 0, rfl, Or.inl ⟨rfl, rfl, rfl⟩, (fun q e => by cases e), Below.refl _ _⟩
  · obtain ⟨i0, hi, hz0, hz1, hz2⟩ := info_parts mem_info
    refine (AnyE.slices_Clone cloneLaidM i0 _ 3 24 hi hz0 hz1 hz2 rfl (by decide) Try.sizeOf60 g o l.length cap (mflat l) w (mflat_len l) (by unfold maxLen; omega) (by omega) (fun j u hj => h5 j u hj) mflat_one).mono ?_
    rintro e w' ⟨v', rfl, ho, _, hb⟩
    obtain ⟨a', c', rfl, hr, hq⟩ := RowOf.ofOwn3 ho
    exact ⟨a', c', rfl, hr, hq, hb⟩

theorem cloneM_zero (x : Addr) (w : World) :
    Calls Try.prog 35 #[.slice (some x) 0 0] w fun e w' => ∃ a' c', e = .returned (.slice a' 0 c') ∧ RowOf w' a' 0 c' (mflat []) ∧ (∀ q, a' = some q → w.heap.size ≤ q.block) ∧ Below w.heap.size w w' := by
  obtain ⟨i0, hi, hz0, hz1, hz2⟩ := info_parts mem_info
  have q36 : ∀ (w : World) (a : Option Addr) (n c n' c' : Nat), (binOp .eql 36 (.slice a n c) (.slice none n' c')).run Try.prog w = .ok (.bool a.isNone) w := fun w a n c n' c' => Lib.run_eql_slice_nil w _ _ a n c n' c' Try.underlying36
  go_enter Try.func35, Try.ntmps35
  go_wp2_with (at_builtin; refine wpList_append_own _ rfl _ _ 36 rfl w.heap.size 60 i0 _ 3 24 Try.underlying36 hi hz0 hz1 hz2 rfl (by decide) _ _ _ rfl (World.ownsRow_made w #[] 0 (Nat.le_refl _) (Nat.zero_le _) (by simp)) x 0 0 [] rfl ?qc1 ?qc2 ?qc3 ?qc4 ?qc5 ?qc6 ?_)
  case qc1 => rfl
  case qc2 => intro j u hj; simp at hj
  case qc3 => intro u hu; simp at hu
  case qc4 => unfold maxLen; omega
  case qc5 => omega
  case qc6 => simp
  intro v' w1 hown hgrow hnil
  go_wp2
  go_ret
  obtain ⟨a', c', rfl, hr, hq⟩ := RowOf.ofOwn3 hown
  exact ⟨a', c', rfl, by simpa [mflat] using hr, hq, ((Below.refl _ w).alloc (Nat.le_refl _) _).grown hgrow (by simp) (by intro k hk; simp [Value.ownBlock] at hk; omega)⟩
/-- the members of a, copied -/
theorem cloneA_any (a : Ar) (w : World) (h : MemOK w a) :
    Calls Try.prog 35 #[.slice a.ma a.ml a.mc] w fun e w' => ∃ a' c', e = .returned (.slice a' a.ml c') ∧ RowOf w' a' a.ml c' (mflat a.mem) ∧ (∀ q, a' = some q → w.heap.size ≤ q.block) ∧ Below w.heap.size w w' := by
  obtain ⟨h2, h3, h4⟩ := h
  rcases h4 with h4 | ⟨h4, h5⟩
  · rw [← h2] at h3 h4 ⊢
    exact cloneM_any _ _ _ w h4 h3
  · rw [h4] at h2
    rw [h4, h5, List.length_eq_zero_iff.1 h2]
    rcases a.ma with _ | x
    · exact cloneM_any none [] 0 w (Or.inl ⟨rfl, rfl, rfl⟩) (Nat.zero_le _)
    · exact cloneM_zero x w

/-- a with its members elsewhere -/
def Ar.moved (a : Ar) (q : Option Addr) (c : Nat) : Ar := ⟨a.id, a.ten, a.kd, a.sec, a.cnt, a.dat, a.fua, q, a.ml, c, a.tm, a.tk, a.tr, a.mem⟩
theorem key_moved (a : Ar) (q : Option Addr) (c : Nat) : key (a.moved q c) = key a := rfl
/-- the nine cells of an empty bunch -/
def ZB : List Value := [.int .i64 0, .int .i64 0, .int .i64 0, .int .i64 0, .int .i64 0, .string ⟨#[]⟩, .bool false, .slice none 0 0, .int .i64 0]
theorem under38 : ∃ d, Try.prog.underlying 38 = some d ∧ d.isRow = true := ⟨_, Try.underlying38, rfl⟩
theorem under40 : ∃ d, Try.prog.underlying 40 = some d ∧ d.isRow = true := ⟨_, Try.underlying40, rfl⟩

set_option maxHeartbeats 1000000 in
theorem bunch_any (a : Ar) (w : World) (h : MemOK w a) :
    Calls Try.prog 32 #[bVal a] w fun e w' => ∃ q c, e = .returned (bVal (a.moved q c)) ∧ MemOK w' (a.moved q c) ∧ MemLo w.heap.size (a.moved q c) ∧ Below w.heap.size w w' := by
  have HM : Hid (∀ W, Below w.heap.size w W → w.heap.size ≤ W.heap.size → Calls Try.prog 35 #[.slice a.ma a.ml a.mc] W fun e w' => ∃ a' c', e = .returned (.slice a' a.ml c') ∧ RowOf w' a' a.ml c' (mflat a.mem) ∧ (∀ q, a' = some q → W.heap.size ≤ q.block) ∧ Below W.heap.size W w') := fun W hb _ => by
    exact cloneA_any a W (h.below hb)
  obtain ⟨hm1, hm2, hm3⟩ := h
  have HL : Hid (a.mem.length = a.ml ∧ a.ml ≤ 5864062014805) := ⟨hm1, hm2⟩
  clear hm1 hm2 hm3
  obtain ⟨W0, hW0⟩ : ∃ W0, W0 = (w.alloc (Obj.cells a.bcells.toArray 38)).alloc (Obj.cells ZB.toArray 38) := ⟨_, rfl⟩
  have hA0 : At W0 w.heap.size a.bcells := by rw [hW0]; exact (At.new w a.bcells 38).alloc _
  have hB0 : At W0 (w.heap.size + 1) ZB := by rw [hW0]; exact (At.new (w.alloc (Obj.cells a.bcells.toArray 38)) ZB 38).cast (by simp)
  have hb0 : Below w.heap.size w W0 := by rw [hW0]; exact ((Below.refl _ w).alloc (Nat.le_refl _) _).alloc (by simp) _
  have hs0 : W0.heap.size = w.heap.size + 2 := by rw [hW0]; simp
  unfold bVal
  obtain ⟨id, ten, kd, sec, cnt, dat, fua, ma, ml, mc, tm, tk, tr, mem⟩ := a
  simp only at HM HL
  have hc7 : W0.cell? ⟨w.heap.size, 7, none⟩ = some (.slice ma ml mc) := hA0.cell 7 _ rfl
  have HA := Lib.hid hA0
  have HB0 := Lib.hid hB0
  have HBel := Lib.hid hb0
  have HS0 := Lib.hid hs0
  clear hA0 hB0 hb0 hs0
  simp only [Ar.bcells, ZB] at hW0
  go_enter Try.func32, Try.ntmps32
  go_wp2_with fail
  rw [← hW0]
  refine (HM.out W0 HBel.out (by rw [HS0.out]; omega)).mono ?_; rintro e w1 ⟨q, c, rfl, hr, hq, hb⟩
  have hlt1 : w.heap.size < W0.heap.size := by rw [HS0.out]; omega
  have hlt2 : w.heap.size + 1 < W0.heap.size := by rw [HS0.out]; omega
  have hA1 : At w1 w.heap.size _ := HA.out.below hb hlt1
  have hB1 : At w1 (w.heap.size + 1) ZB := HB0.out.below hb hlt2
  have hbel1 : Below w.heap.size w w1 := HBel.out.trans (hb.mono HBel.out.size)
  have hA2 : At (w1.setCell ⟨w.heap.size, 7, none⟩ (.slice q ml c)) w.heap.size [.int .i64 id, .int .i64 ten, .int .i64 kd, .int .i64 sec, .int .i64 cnt, .string dat, .bool fua, .slice q ml c, .int .i64 tm] := hA1.set 7 _
  have hB2 : At (w1.setCell ⟨w.heap.size, 7, none⟩ (.slice q ml c)) (w.heap.size + 1) ZB := (hB1.apart (by omega) 7 [.slice q ml c])
  have hbel2 : Below w.heap.size w (w1.setCell ⟨w.heap.size, 7, none⟩ (.slice q ml c)) := hbel1.setCell (p := ⟨w.heap.size, 7, none⟩) (Nat.le_refl _) _
  have hk2 : ∀ k i, k ≠ w.heap.size → (w1.setCell ⟨w.heap.size, 7, none⟩ (.slice q ml c)).cell? ⟨k, i, none⟩ = w1.cell? ⟨k, i, none⟩ := fun k i hk => World.cell?_setCell_other _ _ _ _ (fun e => hk (Addr.mk.inj e).1.symm)
  have hc1 := hA1.cell 7 _ rfl
  have hf1 := hA1.free 7 (by simp [Ar.bcells])
  have HQ : Hid (∀ x, q = some x → W0.heap.size ≤ x.block) := hq
  have HR := Lib.hid hr
  have HA2 := Lib.hid hA2
  have HB2 := Lib.hid hB2
  have HBel2 := Lib.hid hbel2
  have HK2 := Lib.hid hk2
  have HSZ : Hid (w1.heap.size = (w1.setCell ⟨w.heap.size, 7, none⟩ (.slice q ml c)).heap.size) := by simp [World.setCell, Hid]
  clear hA1 hB1 hbel1 hA2 hB2 hbel2 hk2 hr hq hW0 hc7 HM hlt1 hlt2
  generalize HW2 : w1.setCell ⟨w.heap.size, 7, none⟩ (.slice q ml c) = w2 at *
  go_wp2_with (with_reducible refine hold_load 38 rfl ?_)
  refine load_ato 0 HA2.out.r Try.underlying38 rfl size38 rfl rfl rfl ?_
  go_wp2_with (with_reducible refine hold_store 38 rfl ?_)
  refine store_ato 0 [.int .i64 id, .int .i64 ten, .int .i64 kd, .int .i64 sec, .int .i64 cnt, .string dat, .bool fua, .slice q ml c, .int .i64 tm] HB2.out.t rfl size38 (by simp [Value.oneCell']) rfl rfl rfl rfl ?_
  intro w5 hw5
  have hB5 := hw5 ▸ HB2.out.store [.int .i64 id, .int .i64 ten, .int .i64 kd, .int .i64 sec, .int .i64 cnt, .string dat, .bool fua, .slice q ml c, .int .i64 tm] rfl
  have hbel5 : Below w.heap.size w w5 := by rw [hw5]; exact below_cells (by omega) _ _ HBel2.out
  have hsz : W0.heap.size ≤ w1.heap.size := hb.size
  have hsz5 : w1.heap.size ≤ w5.heap.size := by rw [hw5, size_cells, ← HSZ.out]; exact Nat.le_refl _
  have hk5 : ∀ k i, W0.heap.size ≤ k → w5.cell? ⟨k, i, none⟩ = w1.cell? ⟨k, i, none⟩ := fun k i hk => by
    rw [hw5, ← HK2.out k i (by have := HS0.out; omega)]
    exact World.cell?_setCells_out _ _ _ _ _ (fun h _ => by have := HS0.out; simp at h; omega)
  go_wp2_with fail
  refine bodyPost_ret (v := .agg #[.int .i64 id, .int .i64 ten, .int .i64 kd, .int .i64 sec, .int .i64 cnt, .string dat, .bool fua, .slice q ml c, .int .i64 tm]) (results_cell _ _ _ rfl w5 _ _ rfl _ hB5.r Try.underlying38 rfl size38) rfl ?_
  refine ⟨q, c, rfl, ⟨HL.out.1, HL.out.2, Or.inl (HR.out.keep hsz5 fun g o e h1 i => hk5 g i (by have := HQ.out _ e; exact this))⟩, fun x hx => ?_, hbel5⟩
  have := HQ.out x hx
  have := HS0.out
  omega

theorem At.storePre {w : World} {b : Nat} {cs r : List Value} (h : At w b (cs ++ r)) (vs : List Value) (hl : vs.length = cs.length) : At (w.setCells b 0 vs) b (vs ++ r) := by
  have ht : w.there b 0 vs.length := fun j hj => h.t j (by rw [List.length_append]; omega)
  refine ⟨fun j v hv => ?_, ?_, by rw [size_cells]; exact h.hi⟩
  · by_cases hj : j < vs.length
    · rw [List.getElem?_append_left hj] at hv
      exact World.rangeAt_setCells_same _ _ _ _ ht j v hv
    · rw [List.getElem?_append_right (by omega)] at hv
      rw [World.cell?_setCells_out _ _ _ _ _ (fun _ _ => Or.inr (by simp; omega))]
      exact h.r j v (by rw [List.getElem?_append_right (by omega), ← hl]; exact hv)
  · rw [List.length_append, hl, ← List.length_append]
    exact World.there_setCells h.t _ _ _
def ZL : List Value := [.int .i64 0, .int .i64 0, .int .i64 0, .int .i64 0, .int .i64 0, .string ⟨#[]⟩, .bool false, .slice none 0 0, .int .i64 0, .int .i64 0, .int .i64 0]
set_option maxHeartbeats 1000000 in
theorem later_any (a : Ar) (w : World) (h : MemOK w a) :
    Calls Try.prog 24 #[arVal a] w fun e w' => ∃ q c, e = .returned (arVal (a.moved q c)) ∧ MemOK w' (a.moved q c) ∧ MemLo w.heap.size (a.moved q c) ∧ Below w.heap.size w w' := by
  have HM : Hid (∀ W, Below w.heap.size w W → w.heap.size ≤ W.heap.size → Calls Try.prog 32 #[.agg #[.int .i64 a.id, .int .i64 a.ten, .int .i64 a.kd, .int .i64 a.sec, .int .i64 a.cnt, .string a.dat, .bool a.fua, .slice a.ma a.ml a.mc, .int .i64 a.tm]] W fun e w' => ∃ q c, e = .returned (.agg #[.int .i64 a.id, .int .i64 a.ten, .int .i64 a.kd, .int .i64 a.sec, .int .i64 a.cnt, .string a.dat, .bool a.fua, .slice q a.ml c, .int .i64 a.tm]) ∧ MemOK w' (a.moved q c) ∧ MemLo W.heap.size (a.moved q c) ∧ Below W.heap.size W w') := fun W hb _ => bunch_any a W (h.below hb)
  clear h
  obtain ⟨W0, hW0⟩ : ∃ W0, W0 = (w.alloc (Obj.cells a.cells.toArray 40)).alloc (Obj.cells ZL.toArray 40) := ⟨_, rfl⟩
  have hA0 : At W0 w.heap.size (a.bcells ++ [.int .i64 a.tk, .int .i64 a.tr]) := by rw [hW0]; exact (At.new w a.cells 40).alloc _
  have hB0 : At W0 (w.heap.size + 1) ZL := by rw [hW0]; exact (At.new (w.alloc (Obj.cells a.cells.toArray 40)) ZL 40).cast (by simp)
  have hb0 : Below w.heap.size w W0 := by rw [hW0]; exact ((Below.refl _ w).alloc (Nat.le_refl _) _).alloc (by simp) _
  have hs0 : W0.heap.size = w.heap.size + 2 := by rw [hW0]; simp
  have hr0 : W0.rangeAt w.heap.size 0 a.bcells := fun j v hv => hA0.r j v (by rw [List.getElem?_append_left (List.getElem?_eq_some_iff.1 hv).1]; exact hv)
  unfold arVal
  obtain ⟨id, ten, kd, sec, cnt, dat, fua, ma, ml, mc, tm, tk, tr, mem⟩ := a
  simp only at HM
  have HA := Lib.hid hA0
  have HB0 := Lib.hid hB0
  have HBel := Lib.hid hb0
  have HS0 := Lib.hid hs0
  have HR0 := Lib.hid hr0
  clear hA0 hB0 hb0 hs0 hr0
  simp only [Ar.cells, ZL] at hW0
  go_enter Try.func24, Try.ntmps24
  go_wp2_with (with_reducible refine hold_load 38 rfl ?_)
  rw [← hW0]
  clear hW0
  refine load_ato 0 HR0.out Try.underlying38 rfl size38 rfl rfl rfl ?_
  simp only [Ar.bcells]
  go_wp2_with fail
  refine (HM.out W0 HBel.out (by rw [HS0.out]; omega)).mono ?_; rintro e w1 ⟨q, c, rfl, hmo, hlo, hb⟩
  have hlt1 : w.heap.size < W0.heap.size := by rw [HS0.out]; omega
  have hlt2 : w.heap.size + 1 < W0.heap.size := by rw [HS0.out]; omega
  have hA1 := HA.out.below hb hlt1
  have HA1 : Hid (At w1 w.heap.size ([.int .i64 id, .int .i64 ten, .int .i64 kd, .int .i64 sec, .int .i64 cnt, .string dat, .bool fua, .slice ma ml mc, .int .i64 tm] ++ [.int .i64 tk, .int .i64 tr])) := hA1
  have HB1 : Hid (At w1 (w.heap.size + 1) ZL) := HB0.out.below hb hlt2
  have HBel1 : Hid (Below w.heap.size w w1) := HBel.out.trans (hb.mono HBel.out.size)
  have HMO := Lib.hid hmo
  have HLO := Lib.hid hlo
  have HSZ : Hid (W0.heap.size ≤ w1.heap.size) := hb.size
  clear hA1 hlt1 hlt2 hmo hlo hb HM HA HB0 HR0
  go_wp2_with (with_reducible refine hold_store 38 rfl ?_)
  refine store_ato 0 [.int .i64 id, .int .i64 ten, .int .i64 kd, .int .i64 sec, .int .i64 cnt, .string dat, .bool fua, .slice q ml c, .int .i64 tm] (n := 9) (fun j hj => HA1.out.t j (by simp; omega)) rfl size38 (by simp [Value.oneCell']) rfl rfl rfl rfl ?_
  intro w2 hw2
  have HA2 : Hid (At w2 w.heap.size [.int .i64 id, .int .i64 ten, .int .i64 kd, .int .i64 sec, .int .i64 cnt, .string dat, .bool fua, .slice q ml c, .int .i64 tm, .int .i64 tk, .int .i64 tr]) := by rw [hw2]; exact HA1.out.storePre [.int .i64 id, .int .i64 ten, .int .i64 kd, .int .i64 sec, .int .i64 cnt, .string dat, .bool fua, .slice q ml c, .int .i64 tm] rfl
  have HB2 : Hid (At w2 (w.heap.size + 1) ZL) := by rw [hw2]; exact HB1.out.apart (by omega) _ _
  have HBel2 : Hid (Below w.heap.size w w2) := by rw [hw2]; exact below_cells (Nat.le_refl _) _ _ HBel1.out
  have HK2 : Hid (∀ k i, k ≠ w.heap.size → w2.cell? ⟨k, i, none⟩ = w1.cell? ⟨k, i, none⟩) := by
    intro k i hk
    rw [hw2]
    exact World.cell?_setCells_out _ _ _ _ _ (fun h _ => absurd h hk)
  have HSZ2 : Hid (w1.heap.size = w2.heap.size) := by rw [hw2, size_cells]; exact rfl
  clear hw2 HA1 HB1 HBel1
  go_wp2_with (with_reducible refine hold_load 40 rfl ?_)
  refine load_ato 0 HA2.out.r Try.underlying40 rfl size40 rfl rfl rfl ?_
  go_wp2_with (with_reducible refine hold_store 40 rfl ?_)
  refine store_ato 0 [.int .i64 id, .int .i64 ten, .int .i64 kd, .int .i64 sec, .int .i64 cnt, .string dat, .bool fua, .slice q ml c, .int .i64 tm, .int .i64 tk, .int .i64 tr] HB2.out.t rfl size40 (by simp [Value.oneCell']) rfl rfl rfl rfl ?_
  intro w5 hw5
  have hB5 := hw5 ▸ HB2.out.store [.int .i64 id, .int .i64 ten, .int .i64 kd, .int .i64 sec, .int .i64 cnt, .string dat, .bool fua, .slice q ml c, .int .i64 tm, .int .i64 tk, .int .i64 tr] rfl
  have hbel5 : Below w.heap.size w w5 := by rw [hw5]; exact below_cells (by omega) _ _ HBel2.out
  have hsz5 : w1.heap.size ≤ w5.heap.size := by rw [hw5, size_cells, ← HSZ2.out]; exact Nat.le_refl _
  have hk5 : ∀ k i, W0.heap.size ≤ k → w5.cell? ⟨k, i, none⟩ = w1.cell? ⟨k, i, none⟩ := fun k i hk => by
    rw [hw5, ← HK2.out k i (by have := HS0.out; omega)]
    exact World.cell?_setCells_out _ _ _ _ _ (fun h _ => by have := HS0.out; simp at h; omega)
  go_wp2_with fail
  refine bodyPost_ret (v := .agg #[.int .i64 id, .int .i64 ten, .int .i64 kd, .int .i64 sec, .int .i64 cnt, .string dat, .bool fua, .slice q ml c, .int .i64 tm, .int .i64 tk, .int .i64 tr]) (results_cell _ _ _ rfl w5 _ _ rfl _ hB5.r Try.underlying40 rfl size40) rfl ?_
  refine ⟨q, c, rfl, ⟨HMO.out.1, HMO.out.2.1, HMO.out.2.2.imp (fun h => h.keep hsz5 fun g o e h1 i => hk5 g i (by have := HLO.out _ e; exact this)) (fun h => h)⟩, fun x hx => ?_, hbel5⟩
  have := HLO.out x hx
  have := HS0.out
  omega
end Go.Proofs.Ythfjlojikbgnfaa
