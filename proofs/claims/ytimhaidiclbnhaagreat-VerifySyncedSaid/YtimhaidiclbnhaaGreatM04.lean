/- Layer 46, shared texts of this seat, part 04. -/
import Derived.Shelf.SlicesE.Clone
import Derived.Ground.SlgnProg
import Derived.Lib.AppendZeros
import Derived.Deep.RegionLaw
import Derived.Test.YtimhaidiclbnhaaGreatM03
/- process, number; Lookup, the document's too; free. -/
set_option maxRecDepth 100000
set_option linter.unusedSimpArgs false
set_option linter.unusedVariables false
namespace Go.Proofs.YtimhaidiclbnhaaGreat.Des
open Go.ChangeShapes Go.WideShapes Go.ChangeAt Go.RowKit

/-- sizes that all walks take -/
structure DSz (x : Dv) : Prop where
  o : x.o.length ≤ 10000
  t : x.t.length ≤ 1000
  e : ∀ y ∈ x.t, y.l.length ≤ 10000
def procV (d : De) (p : Int) : Int := if checkV d = false then 1 else if p < 0 ∨ (d.t.length : Int) ≤ p then 2 else 0
theorem procV_ok {d : De} {p : Int} (h : procV d p = 0) : checkV d = true ∧ 0 ≤ p ∧ p < (d.t.length : Int) := by
  unfold procV at h
  cases hc : checkV d
  · rw [if_pos hc] at h; cases h
  · rw [if_neg (by rw [hc]; simp)] at h
    by_cases hp : p < 0 ∨ (d.t.length : Int) ≤ p
    · rw [if_pos hp] at h; cases h
    · exact ⟨rfl, by omega, by omega⟩
theorem pl_t (x : Dv) : x.pl.t.length = x.t.length := List.length_map _
set_option maxHeartbeats 2000000 in
theorem process_any (x : Dv) (p : Int) (w : World) (h : DIn w x) (hz : DSz x) :
    Calls Tryz.prog 117 #[dVal x, .int .i64 p] w (RetW (.int .i64 (procV x.pl p)) w) := by
  have HC := Lib.hid (fun W hb => check_any' x W (h.below hb) hz.o hz.t)
  have HV : Hid (procV x.pl p = if checkV x.pl = false then 1 else if p < 0 ∨ (x.t.length : Int) ≤ p then 2 else 0) := by unfold procV; rw [pl_t]; rfl
  clear h hz
  generalize checkV x.pl = cv at *
  generalize procV x.pl p = pv at *
  unfold dVal at HC ⊢
  obtain ⟨oa, oc, o, ta, tc, t⟩ := x
  simp only at HC HV
  go_enter Tryz.func117, Tryz.ntmps117
  go_wp2_with fail
  refine (HC.out _ ((Below.refl _ _).alloc (Nat.le_refl _) _)).mono ?_
  rintro e w2 ⟨rfl, hb⟩
  have hp0 : w2.cell? ⟨w.heap.size, 0, none⟩ = some (.slice oa o.length oc) := (hb.cell (p := ⟨w.heap.size, 0, none⟩) (by simp)).trans (by simp)
  have hp1 : w2.cell? ⟨w.heap.size, 1, none⟩ = some (.slice ta t.length tc) := (hb.cell (p := ⟨w.heap.size, 1, none⟩) (by simp)).trans (by simp)
  have HB : Hid (Below w.heap.size w w2) := ((Below.refl _ w).alloc (Nat.le_refl _) _).trans (hb.mono (by simp))
  clear hb HC
  cases cv with
  | false =>
    have HV2 : Hid (pv = 1) := HV.out
    go_wp2_with fail
    go_ret
    exact RetW.mk (by rw [HV2.out]; try rfl) HB.out
  | true =>
    by_cases hp : p < 0 ∨ (t.length : Int) ≤ p
    · have HV2 : Hid (pv = 2) := by have := HV.out; rw [if_neg (by simp), if_pos hp] at this; exact this
      have HP := Lib.hid hp
      clear hp HV
      go_wp2_with fail
      all_goals first | (exfalso; have := HP.out; omega) | (go_ret; exact RetW.mk (by rw [HV2.out]; try rfl) HB.out)
    · have HV2 : Hid (pv = 0) := by have := HV.out; rw [if_neg (by simp), if_neg hp] at this; exact this
      have h1 : 0 ≤ p := by omega
      have h2 : p < (t.length : Int) := by omega
      clear hp HV
      go_wp2_with fail
      go_ret
      exact RetW.mk (by rw [HV2.out]; try rfl) HB.out

def tabAt (d : De) (p : Int) : List Int := d.t.getD p.toNat []
def entAt (d : De) (p f : Int) : Int := (tabAt d p).getD f.toNat 0
def numE (d : De) (p f : Int) : Int := if procV d p ≠ 0 then procV d p else if f < 0 ∨ 16 ≤ f ∨ entAt d p f = 0 then 4 else 0
def numV (d : De) (p f : Int) : Int := if numE d p f = 0 then entAt d p f - 1 else 0
theorem check_tab {d : De} (h : checkV d = true) (i : Nat) (hi : i < d.t.length) : (d.t.getD i []).length = 16 ∧ ∀ j, j < 16 → 0 ≤ (d.t.getD i []).getD j 0 ∧ (d.t.getD i []).getD j 0 ≤ d.o.length := by
  unfold checkV at h
  rw [Bool.and_eq_true, Bool.and_eq_true] at h
  have h1 : tabB d.o.length (d.t.getD i []) = true := by
    rw [getD_get hi]
    exact List.all_eq_true.1 h.1.1 _ (List.getElem_mem hi)
  generalize d.t.getD i [] = l at *
  unfold tabB at h1
  rw [Bool.and_eq_true] at h1
  have h2 := of_decide_eq_true h1.1
  refine ⟨h2, fun j hj => ?_⟩
  have := List.all_eq_true.1 h1.2 (l.getD j 0) (by rw [getD_get (by omega)]; exact List.getElem_mem _)
  exact of_decide_eq_true this
theorem check_len {d : De} (h : checkV d = true) : 1 ≤ d.t.length ∧ d.t.length ≤ 8 ∧ d.o.length ≤ 128 := by
  unfold checkV at h
  rw [Bool.and_eq_true, Bool.and_eq_true] at h
  exact of_decide_eq_true h.1.2

set_option maxHeartbeats 4000000 in
theorem number_any (x : Dv) (p f : Int) (w : World) (h : DIn w x) (hz : DSz x) :
    Calls Tryz.prog 122 #[dVal x, .int .i64 p, .int .i64 f] w (RetW (.tuple #[.int .i64 (numV x.pl p f), .int .i64 (numE x.pl p f)]) w) := by
  have HC := Lib.hid (fun W hb => process_any x p W (h.below hb) hz)
  have HR := Lib.hid h.rows
  have HOK : Hid (procV x.pl p = 0 → 0 ≤ p ∧ p < (x.t.length : Int) ∧ (tabAt x.pl p).length = 16 ∧ tabAt x.pl p = (x.t.getD p.toNat Tb.nil).l ∧ ∀ j, j < 16 → 0 ≤ (tabAt x.pl p).getD j 0 ∧ (tabAt x.pl p).getD j 0 ≤ x.o.length) := fun hp => by
    obtain ⟨h1, h2, h3⟩ := procV_ok hp
    rw [pl_t] at h3
    have h4 := check_tab h1 p.toNat (by rw [pl_t]; omega)
    exact ⟨h2, h3, h4.1, map_getD x.t p.toNat (by omega), h4.2⟩
  have HE : Hid (numE x.pl p f = if procV x.pl p ≠ 0 then procV x.pl p else if f < 0 ∨ 16 ≤ f ∨ (tabAt x.pl p).getD f.toNat 0 = 0 then 4 else 0) := rfl
  have HN : Hid (numV x.pl p f = if numE x.pl p f = 0 then (tabAt x.pl p).getD f.toNat 0 - 1 else 0) := rfl
  have hol := hz.o
  clear h hz
  generalize procV x.pl p = pv at *
  generalize numE x.pl p f = ne at *
  generalize numV x.pl p f = nv at *
  generalize tabAt x.pl p = T at *
  unfold dVal at HC ⊢
  obtain ⟨oa, oc, o, ta, tc, t⟩ := x
  simp only at HC HR HOK hol
  go_enter Tryz.func122, Tryz.ntmps122
  go_wp2_with fail
  refine (HC.out _ ((Below.refl _ _).alloc (Nat.le_refl _) _)).mono ?_
  rintro e w2 ⟨rfl, hb⟩
  have hp1 : w2.cell? ⟨w.heap.size, 1, none⟩ = some (.slice ta t.length tc) := (hb.cell (p := ⟨w.heap.size, 1, none⟩) (by simp)).trans (by simp)
  have HB : Hid (Below w.heap.size w w2) := ((Below.refl _ w).alloc (Nat.le_refl _) _).trans (hb.mono (by simp))
  clear hb HC
  by_cases hpv : pv = 0
  · subst hpv
    obtain ⟨q0, q1, q2, q3, q4⟩ := HOK.out rfl
    obtain ⟨k, rfl⟩ : ∃ k : Nat, p = (k : Int) := ⟨p.toNat, by omega⟩
    rw [Int.toNat_natCast] at q3
    obtain ⟨g, of, rfl, e1, e2, e3, e4⟩ := HR.out w2 HB.out k (by omega)
    rw [if_neg (by simp)] at HE
    have Q2 := Lib.hid q2
    have Q4 := Lib.hid q4
    clear HR HOK q2 q4
    subst q3
    generalize t.getD k Tb.nil = y at *
    obtain ⟨ya, yc, yl⟩ := y
    simp only at HE HN Q2 Q4 e3 e4
    have hyl : (yl.length : Int) = 16 := by rw [Q2.out]; rfl
    by_cases hf : f < 0 ∨ 16 ≤ f
    · have HE2 : Hid (ne = 4) := by have := HE.out; rw [if_pos (by omega)] at this; exact this
      have HN2 : Hid (nv = 0) := by have := HN.out; rw [if_neg (by rw [HE2.out]; decide)] at this; exact this
      have HF := Lib.hid hf
      clear hf e4
      go_wp2_with fail
      all_goals first | (exfalso; have := HF.out; omega) | (go_ret2; exact RetW.mk (by rw [HE2.out, HN2.out]; try rfl) HB.out)
    · obtain ⟨j, rfl⟩ : ∃ j : Nat, f = (j : Int) := ⟨f.toNat, by omega⟩
      rw [Int.toNat_natCast] at HE HN
      obtain ⟨g', of', rfl, c1, c2, c3⟩ := e4 j (by omega)
      obtain ⟨z0, z1⟩ := Q4.out j (by omega)
      have hj1 : (j : Int) < 16 := by omega
      clear e4 hf
      generalize yl.getD j 0 = z at *
      by_cases hzz : z = 0
      · subst hzz
        have HE2 : Hid (ne = 4) := by have := HE.out; rw [if_pos (by omega)] at this; exact this
        have HN2 : Hid (nv = 0) := by have := HN.out; rw [if_neg (by rw [HE2.out]; decide)] at this; exact this
        go_wp2_with fail
        go_ret2
        exact RetW.mk (by rw [HE2.out, HN2.out]; try rfl) HB.out
      · have HE2 : Hid (ne = 0) := by have := HE.out; rw [if_neg (by omega)] at this; exact this
        have HN2 : Hid (nv = z - 1) := by have := HN.out; rw [if_pos HE2.out] at this; exact this
        have hzb : (z == 0) = false := by simpa using hzz
        go_wp2_with fail
        go_ret2
        exact RetW.mk (by rw [HE2.out, HN2.out]; try rfl) HB.out
  · have HE2 : Hid (ne = pv) := by have := HE.out; rw [if_pos hpv] at this; exact this
    have HN2 : Hid (nv = 0) := by have := HN.out; rw [if_neg (by rw [HE2.out]; exact hpv)] at this; exact this
    go_wp2_with fail
    go_ret2
    exact RetW.mk (by rw [HE2.out, HN2.out]; try rfl) HB.out
end Go.Proofs.YtimhaidiclbnhaaGreat.Des
/- slices.Clone at descriptions; clone. -/
set_option maxRecDepth 100000
set_option linter.unusedSimpArgs false
set_option linter.unusedVariables false
namespace Go.Proofs.YtimhaidiclbnhaaGreat.Des
open Go.ChangeShapes Go.WideShapes Go.ChangeAt Go.RowKit

def cloneRen : Go.Shelf.Ren := ⟨fun | 41 => 138 | n => n, fun | 22 => 80 | 23 => 126 | 4 => 4 | n => n, fun | n => n⟩
theorem cloneLaid : Go.Proofs.SlLaysE0.n41 Tryz.prog cloneRen := {
  mixed := by kernel_rfl
  f41 := ⟨Tryz.f138.name, by decide, Tryz.func138.trans (congrArg some (by kernel_rfl))⟩
  t4 := Tryz.underlying4
  a4 := Tryz.isAgg4
  z4 := Tryz.sizeOf4
  v4 := Tryz.zeroValue4
  t22 := Tryz.underlying80
  a22 := Tryz.isAgg80
  z22 := Tryz.sizeOf80
  v22 := Tryz.zeroValue80 }
theorem cloneO_any (a : Option Addr) (l : List Dn) (cap : Nat) (w : World) (h : RowOf w a l.length cap (oflat l)) (hl : l.length ≤ 10000) :
    Calls Tryz.prog 138 #[.slice a l.length cap] w fun e w' => ∃ a' c', e = .returned (.slice a' l.length c') ∧ w'.ownsRow w.heap.size 126 5 (.slice a' l.length c') l.length (oflat l) ∧ Below w.heap.size w w' := by
  rcases h with ⟨rfl, h2, rfl⟩ | ⟨g, o, rfl, h2, h3, h4, h5⟩
  · have h3 := List.length_eq_zero_iff.1 h2
    subst h3
    refine (AnyE.slices_Clone_nil cloneLaid 0 0 w).mono ?_
    rintro e w' ⟨rfl, rfl⟩
    exact ⟨none, 0, rfl, ⟨by simp [oflat], Or.inl ⟨rfl, rfl⟩⟩, Below.refl _ _⟩
  · obtain ⟨i0, hi, hz0, hz1, hz2⟩ := info_parts desc_info
    refine (AnyE.slices_Clone cloneLaid i0 _ 5 40 hi hz0 hz1 hz2 rfl (by decide) Tryz.sizeOf126 g o l.length cap (oflat l) w (oflat_len l) (by unfold maxLen; omega) (by omega) (fun j u hj => h5 j u hj) oflat_cells).mono ?_
    rintro e w' ⟨v', rfl, ho, _, hb⟩
    obtain ⟨a', c', rfl⟩ := own_slice ho
    exact ⟨a', c', rfl, ho, hb⟩

theorem DOwn.boxed {B b : Nat} {W : World} {x : Dv} (h : DOwn B W x) (ty : ∃ cur, W.heap[b]? = some (.cells cur 83 (0, 0))) (o : Nat) (v : Value) : DOwn B (W.setCell ⟨b, o, none⟩ v) x :=
  ⟨own_apart h.o _ _ (own_ne2 h.o ty (by decide)), own_apart h.t _ _ (own_ne2 h.t ty (by decide)), fun y hy => own_apart (h.e y hy) _ _ (own_ne2 (h.e y hy) ty (by decide)), h.d⟩
theorem Wk.boxT {B b : Nat} {W : World} {x : Dv} {a : Option Addr} {c : Nat} {l : List Tb} {n : Nat} (own : DOwn B W ⟨x.oa, x.oc, x.o, a, c, l⟩) (box : Bx W b x) (lo : B ≤ b) (hn : l.length = n) : Wk B (W.setCell ⟨b, 1, none⟩ (.slice a n c)) b ⟨x.oa, x.oc, x.o, a, c, l⟩ :=
  ⟨own.boxed box.ty _ _, box.setT a c l n hn, lo⟩
theorem Wk.boxO {B b : Nat} {W : World} {x : Dv} {a : Option Addr} {c : Nat} {l : List Dn} {n : Nat} (own : DOwn B W ⟨a, c, l, x.ta, x.tc, x.t⟩) (box : Bx W b x) (lo : B ≤ b) (hn : l.length = n) : Wk B (W.setCell ⟨b, 0, none⟩ (.slice a n c)) b ⟨a, c, l, x.ta, x.tc, x.t⟩ :=
  ⟨own.boxed box.ty _ _, box.setO a c l n hn, lo⟩
theorem size3 : (Tryz.prog.info? 3).map (·.size) = some 1 := by kernel_rfl
/-- a block of one's own that holds the whole of a row -/
theorem own_whole {W : World} {B g n : Nat} {l : List Int} (h : W.heap[g]? = some (.cells (ints l).toArray 3 (0, 0))) (hB : B ≤ g) (hn : l.length = n) (hm : n ≤ 10000) : W.ownsRow B 3 1 (.slice (some ⟨g, 0, none⟩) n n) n (ints l) := by
  subst hn
  refine ⟨by simp [ints], Or.inr ⟨g, l.length, _, rfl, hB, h, Nat.le_refl _, by unfold maxLen; omega, by simp [ints], by
    rw [List.toList_toArray, Nat.mul_one]
    exact List.take_of_length_le (by simp [ints])⟩⟩
def Z2 : List Value := [.slice none 0 0, .slice none 0 0]
theorem At.two {W : World} {b : Nat} {a0 a1 : Value} (h : At W b [a0, a1]) : W.cell? ⟨b, 0, none⟩ = some a0 ∧ W.cell? ⟨b, 1, none⟩ = some a1 ∧ W.frozen? ⟨b, 0, none⟩ = false ∧ W.frozen? ⟨b, 1, none⟩ = false ∧ b < W.heap.size :=
  ⟨h.cell 0 _ rfl, h.cell 1 _ rfl, h.free 0 (by simp), h.free 1 (by simp), h.hi⟩
def ClonePost (w : World) (d : De) (e : Ending) (w' : World) : Prop := ∃ y : Dv, e = .returned (dVal y) ∧ y.pl = d ∧ DOwn w.heap.size w' y ∧ Below w.heap.size w w'

set_option maxHeartbeats 4000000 in
theorem clone_any (x : Dv) (w : World) (h : DIn w x) (hz : DSz x) : Calls Tryz.prog 116 #[dVal x] w (ClonePost w x.pl) := by
  have HC := Lib.hid (fun W hb => cloneO_any x.oa x.o x.oc W (h.below hb).o hz.o)
  have HR := Lib.hid h.rows
  have HRW : Hid (∀ W, Below w.heap.size w W → ∀ k, k < x.t.length → RowOf W (x.t.getD k Tb.nil).a (x.t.getD k Tb.nil).l.length (x.t.getD k Tb.nil).c (ints (x.t.getD k Tb.nil).l)) := fun W hb k hk => (h.below hb).tab k hk
  have HSE : Hid (∀ k, k < x.t.length → (x.t.getD k Tb.nil).l.length ≤ 10000) := fun k hk => hz.e _ (by rw [getD_get hk]; exact List.getElem_mem hk)
  have HP : Hid (∀ (y : Dv) w', y.o = x.o → y.t.map Tb.l = x.t.map Tb.l → DOwn w.heap.size w' y → Below w.heap.size w w' → ClonePost w x.pl (.returned (dVal y)) w') := fun y w' h1 h2 h3 h4 => ⟨y, rfl, De.ext' h1 h2, h3, h4⟩
  have hot := hz.t
  have hoo := hz.o
  clear h hz
  generalize ClonePost w x.pl = Post at *
  unfold dVal at HP ⊢
  obtain ⟨oa, oc, o, ta, tc, t⟩ := x
  simp only at HC HR HRW HSE HP hot hoo
  obtain ⟨W0, hW0⟩ : ∃ W0, W0 = (w.alloc (Obj.cells #[.slice oa o.length oc, .slice ta t.length tc] 83)).alloc (Obj.cells Z2.toArray 83) := ⟨_, rfl⟩
  have hb0 : Below w.heap.size w W0 := by rw [hW0]; exact ((Below.refl _ w).alloc (Nat.le_refl _) _).alloc (by simp) _
  have hs0 : W0.heap.size = w.heap.size + 2 := by rw [hW0]; simp
  have hB0 : At W0 (w.heap.size + 1) Z2 := by rw [hW0]; exact (At.new (w.alloc (Obj.cells #[.slice oa o.length oc, .slice ta t.length tc] 83)) Z2 83).cast (by simp)
  have hp0 : W0.cell? ⟨w.heap.size, 0, none⟩ = some (.slice oa o.length oc) := by rw [hW0]; simp
  have hp1 : W0.cell? ⟨w.heap.size, 1, none⟩ = some (.slice ta t.length tc) := by rw [hW0]; simp
  have HB0 := Lib.hid hb0
  have HS0 := Lib.hid hs0
  have HA0 := Lib.hid hB0
  clear hb0 hs0 hB0
  simp only [Z2] at hW0
  go_enter Tryz.func116, Tryz.ntmps116
  go_wp2_with fail
  rw [← hW0]
  refine (HC.out W0 HB0.out).mono ?_
  rintro e w1 ⟨a', c', rfl, ho1, hb⟩
  have hk1 : w1.cell? ⟨w.heap.size, 1, none⟩ = some (.slice ta t.length tc) := (hb.cell (p := ⟨w.heap.size, 1, none⟩) (by rw [HS0.out]; simp)).trans hp1
  have hlt : W0.heap.size ≤ w1.heap.size := hb.size
  have HB1 : Hid (Below (w.heap.size + 2) W0 w1) := by rw [← HS0.out]; exact hb
  rw [HS0.out] at ho1 hlt
  -- the answer's variable
  obtain ⟨O, hO⟩ : ∃ O, O = w1.heap.size := ⟨_, rfl⟩
  have how := ownsRow_below ho1 ((Below.refl w1.heap.size w1).alloc (Nat.le_refl _) (Obj.cells #[.slice a' o.length c', .slice none 0 0] 83))
  have hW : Wk (w.heap.size + 2) (w1.alloc (Obj.cells #[.slice a' o.length c', .slice none 0 0] 83)) w1.heap.size ⟨a', c', o, none, 0, []⟩ :=
    ⟨⟨how, ⟨rfl, Or.inl ⟨rfl, rfl⟩⟩, (fun y hy => by cases hy), List.Pairwise.nil⟩, Bx.new w1 ⟨a', c', o, none, 0, []⟩, hlt⟩
  have hB2 : Below (w.heap.size + 2) W0 (w1.alloc (Obj.cells #[.slice a' o.length c', .slice none 0 0] 83)) := HB1.out.alloc hlt _
  have HWk := Lib.hid hW
  have HB2 := Lib.hid hB2
  have hlt0 : w.heap.size < w1.heap.size := by omega
  have hne0 : w.heap.size ≠ w1.heap.size := by omega
  clear hp0 hp1 hW0 hb HC hW hB2 how ho1 HB1
  go_wp2_with fail
  generalize w1.alloc (Obj.cells #[.slice a' o.length c', .slice none 0 0] 83) = w2 at *
  rw [← hO] at *
  go_loopw [14] (fun v14 wr => ∃ (k : Nat) (y : Dv), k ≤ t.length ∧ v14 = .int .i64 k ∧ Hid (y.o = o ∧ y.t.map Tb.l = (t.map Tb.l).take k) ∧ Hid (Wk (w.heap.size + 2) wr O y) ∧ Hid (Below (w.heap.size + 2) W0 wr)) (fun v14 _ => 2000 - (intOf v14).toNat)
  case atStart => exact ⟨0, ⟨a', c', o, none, 0, []⟩, Nat.zero_le _, rfl, ⟨rfl, rfl⟩, HWk, HB2⟩
  case round =>
    obtain ⟨k, y, hk, rfl, HY, HW, HB⟩ := hrel
    have HBW := Lib.hid (HB0.out.trans (HB.out.mono (by omega)))
    obtain ⟨x0, x1, x2, x3, x4⟩ := HW.out.box.cc
    by_cases hlt2 : k < t.length
    · have hlt' : (k : Int) < (t.length : Int) := by omega
      obtain ⟨g, of, rfl, _, _, hcell, _⟩ := HR.out wr HBW.out k hlt2
      have hrow := HRW.out wr HBW.out k hlt2
      have hye := HSE.out k hlt2
      have htk : (t.map Tb.l).take (k + 1) = (t.map Tb.l).take k ++ [(t.getD k Tb.nil).l] := by
        rw [List.take_add_one, List.getElem?_map, List.getElem?_eq_getElem hlt2, getD_get hlt2]; rfl
      have HTK := Lib.hid htk
      clear htk HRW HSE HR HWk HB2
      generalize t.getD k Tb.nil = q at *
      obtain ⟨ya, yc, yl⟩ := q
      simp only at hcell hrow hye HTK
      have HROW := Lib.hid hrow
      have hcapy := hrow.cap
      clear hrow
      have hmk := make_run yl.length (by omega)
      rw [made_ints] at hmk
      obtain ⟨Zc, hZc⟩ : ∃ Zc, Zc = ints (List.replicate yl.length 0) := ⟨_, rfl⟩
      have hZl : Zc.length = yl.length := by rw [hZc]; simp [ints]
      rw [← hZc] at hmk
      have HZL := Lib.hid hZl
      clear hZc hZl
      have HYL : Hid (y.t.length = k) := by
        have := congrArg List.length HY.out.2
        rw [List.length_map, List.length_take, List.length_map] at this
        rw [Hid, this]; omega
      have hwlt : w.heap.size + 2 ≤ wr.heap.size := HW.out.box.cc.2.2.2.2 |> fun h => by have := HW.out.lo; omega
      have HWL := Lib.hid hwlt
      have HD1 : Hid ((wr.alloc (Obj.cells Zc.toArray 3)).heap[wr.heap.size]? = some (.cells Zc.toArray 3 (0, 0))) := Go.heap_alloc_new wr _
      have HD2 : Hid ((ints yl).length = Nat.min yl.length yl.length) := by rw [Hid, ints_len]; exact (Nat.min_self _).symm
      have HD3 : Hid (0 < (ints yl).length → (some ⟨wr.heap.size, 0, none⟩ : Option Addr) = some ⟨wr.heap.size, 0, none⟩ ∧ ∃ ad, ya = some ad ∧ ∀ j v, (ints yl)[j]? = some v → (wr.alloc (Obj.cells Zc.toArray 3)).cell? (ad.add j) = some v) := by
        intro hpos
        rw [ints_len] at hpos
        rcases HROW.out with ⟨_, h0, _⟩ | ⟨g', o', rfl, g1, g2, g3, g4⟩
        · omega
        · refine ⟨rfl, _, rfl, fun j v hj => ?_⟩
          rw [Addr.add_lit, World.cell?_alloc_lt _ _ _ (by exact g1)]
          exact g4 j v hj
      have HD4 : Hid (0 + (ints yl).length ≤ Zc.length) := by rw [Hid, ints_len, HZL.out]; omega
      have HD5 : Hid (Below wr.heap.size wr (wr.alloc (Obj.cells Zc.toArray 3))) := (Below.refl _ _).alloc (Nat.le_refl _) _
      have HD6 : Hid ((Instr.makeSlice 22 (.int .i64 yl.length) (.int .i64 yl.length)).run Tryz.prog wr = .ok (.slice (some ⟨wr.heap.size, 0, none⟩) yl.length yl.length) (wr.alloc (.cells Zc.toArray 3))) := hmk wr
      go_wp2_with (first
      | ((with_reducible show wpList _ _ _ _ _ _)
         refine wpList_copy_splice rfl (.tmp 21) (.tmp 22) 22 22 rfl 3 Tryz.underlying22 size3 _ _ _ _ _ _ rfl rfl wr.heap.size 0 Zc 3 HD1.out (ints yl) HD2.out HD3.out HD4.out ints_one wr.heap.size wr HD5.out (Nat.le_refl _) ?_
         intro w3 hh3 hb3
         have hsp : splice Zc 0 (ints yl) = ints yl := by
           unfold splice
           rw [List.take_zero, List.nil_append, Nat.zero_add, List.drop_of_length_le (by rw [HZL.out, ints_len]; exact Nat.le_refl _), List.append_nil]
         have hh4 := hh3.out
         rw [hsp] at hh4
         have hG3 : wr.heap.size < w3.heap.size := (Array.getElem?_eq_some_iff.1 hh4).1
         have hown3 : w3.ownsRow (w.heap.size + 2) 3 1 (.slice (some ⟨wr.heap.size, 0, none⟩) yl.length yl.length) yl.length (ints yl) := own_whole hh4 hwlt rfl (by omega)
         have hW3 : Wk (w.heap.size + 2) w3 O y := HW.out.below hb3
         obtain ⟨yn, hyn⟩ : ∃ yn : Tb, yn = ⟨some ⟨wr.heap.size, 0, none⟩, yl.length, yl⟩ := ⟨_, rfl⟩
         obtain ⟨W4, hW4⟩ : ∃ W4, W4 = w3.alloc (Obj.cells #[Value.slice (some ⟨wr.heap.size, 0, none⟩) yl.length yl.length] 22) := ⟨_, rfl⟩
         have hb4 : Below w3.heap.size w3 W4 := by rw [hW4]; exact (Below.refl _ _).alloc (Nat.le_refl _) _
         have hc4 : W4.cell? ⟨w3.heap.size, 0, none⟩ = some yn.val := by rw [hW4, hyn]; simp [Tb.val]
         have hW4k : Wk (w.heap.size + 2) W4 O y := hW3.below hb4
         have hlt4 : w.heap.size + 2 ≤ W4.heap.size := by have := hb4.size; omega
         obtain ⟨aN, cN, wN, hrun, hown, hbox, hbN⟩ := append_tab W4 (w.heap.size + 2) O y yn w3.heap.size hW4k hc4 (by rw [hyn]; exact ownsRow_below hown3 hb4) (by
           intro z hz p q hp hq
           rw [hyn] at hq
           cases hq
           have := (HW.out.own.e z hz).lt p.block (by unfold Tb.val; rw [hp]; rfl)
           show p.block ≠ wr.heap.size
           omega) (by have := HYL.out; omega) hlt4
         have HAP := Lib.hid hrun
         have HWN : Hid (Wk (w.heap.size + 2) (wN.setCell ⟨O, 1, none⟩ (.slice aN (y.t.length + 1) cN)) O ⟨y.oa, y.oc, y.o, aN, cN, y.t ++ [yn]⟩) := Wk.boxT hown hbox HW.out.lo (by simp)
         have HBN : Hid (Below (w.heap.size + 2) W0 (wN.setCell ⟨O, 1, none⟩ (.slice aN (y.t.length + 1) cN))) := (((HB.out.trans (hb3.mono hwlt)).trans (hb4.mono (by omega))).trans hbN).setCell (p := ⟨O, 1, none⟩) HW.out.lo _
         have HYN : Hid ((y.t ++ [yn]).map Tb.l = (t.map Tb.l).take (k + 1)) := by
           rw [Hid, List.map_append, HY.out.2, HTK.out, hyn]; rfl
         obtain ⟨z0, z1, z2, z3, z4⟩ := hbox.cc
         obtain ⟨u0, u1, u2, u3, u4⟩ := hW3.box.cc
         clear hrun hown hbox hbN x0 x1 x2 x3 x4 hh3 hh4 hsp hmk HROW hcell hown3 hW3 hW4k hc4 hb4 hb3)
      | (at_builtin; rw [← hW4]; clear hW4; refine Lib.wpList_append_run _ rfl _ _ _ _ rfl _ _ rfl rfl _ _ HAP.out ?_))
      clear HAP
      go_wp2_with fail
      go_roundw
      case rel => exact ⟨k + 1, ⟨y.oa, y.oc, y.o, aN, cN, y.t ++ [yn]⟩, by omega, by go_num, ⟨HY.out.1, HYN.out⟩, HWN, HBN⟩
      case measure => simp [intOf]; omega
    · obtain rfl : k = t.length := by omega
      have htt : (t.map Tb.l).take t.length = t.map Tb.l := List.take_of_length_le (by simp)
      have HY2 : Hid (y.o = o ∧ y.t.map Tb.l = t.map Tb.l) := ⟨HY.out.1, by rw [HY.out.2, htt]⟩
      have hA := HA0.out.below HB.out (by omega)
      unfold Z2 at hA
      obtain ⟨r0, r1, r2, r3, r4⟩ := hA.two
      have hA5 := (hA.set 0 (.slice y.oa y.o.length y.oc)).set 1 (.slice y.ta y.t.length y.tc)
      have hneO : w.heap.size + 1 ≠ O := by have := HW.out.lo; omega
      have tyR : ∀ q e size n v xs, wr.ownsRow (w.heap.size + 2) e size v n xs → v.ownBlock = some q → q ≠ w.heap.size + 1 := fun q e size n v xs h hq => by have := (h.lt q hq).1; omega
      have hD5 : DOwn w.heap.size ((wr.setCell ⟨w.heap.size + 1, 0, none⟩ (.slice y.oa y.o.length y.oc)).setCell ⟨w.heap.size + 1, 1, none⟩ (.slice y.ta y.t.length y.tc)) y := by
        have h0 := HW.out.own
        refine DOwn.mono (B := w.heap.size + 2) ⟨?_, ?_, fun z hz => ?_, h0.d⟩ (by omega)
        · exact own_apart (own_apart h0.o _ _ (fun q hq => tyR q _ _ _ _ _ h0.o hq)) _ _ (fun q hq => tyR q _ _ _ _ _ h0.o hq)
        · exact own_apart (own_apart h0.t _ _ (fun q hq => tyR q _ _ _ _ _ h0.t hq)) _ _ (fun q hq => tyR q _ _ _ _ _ h0.t hq)
        · exact own_apart (own_apart (h0.e z hz) _ _ (fun q hq => tyR q _ _ _ _ _ (h0.e z hz) hq)) _ _ (fun q hq => tyR q _ _ _ _ _ (h0.e z hz) hq)
      have hB5 : Below w.heap.size w ((wr.setCell ⟨w.heap.size + 1, 0, none⟩ (.slice y.oa y.o.length y.oc)).setCell ⟨w.heap.size + 1, 1, none⟩ (.slice y.ta y.t.length y.tc)) := (HBW.out.setCell (p := ⟨w.heap.size + 1, 0, none⟩) (by simp) _).setCell (p := ⟨w.heap.size + 1, 1, none⟩) (by simp) _
      have hPo := HP.out y _ HY2.out.1 HY2.out.2 hD5 hB5
      have HPo := Lib.hid hPo
      simp only [List.set_cons_zero, List.set_cons_succ] at hA5
      have e0 := hA5.cell 0 _ rfl
      have e1 := hA5.cell 1 _ rfl
      clear hPo hD5 hB5 hA5 hA HW HP tyR htt HY HY2
      unfold dVal at HPo
      go_wp2_with fail
      generalize ((wr.setCell ⟨w.heap.size + 1, 0, none⟩ (.slice y.oa y.o.length y.oc)).setCell ⟨w.heap.size + 1, 1, none⟩ (.slice y.ta y.t.length y.tc)) = w9 at *
      exact bodyPost_ret (v := .agg #[.slice y.oa y.o.length y.oc, .slice y.ta y.t.length y.tc]) (by simp [results, Tryz.results116, go_sem, e0, e1]) rfl HPo.out
end Go.Proofs.YtimhaidiclbnhaaGreat.Des
/- copied: the document's copy of descriptors. -/
set_option maxRecDepth 100000
set_option linter.unusedSimpArgs false
set_option linter.unusedVariables false
namespace Go.Proofs.YtimhaidiclbnhaaGreat.Des
open Go.ChangeShapes Go.WideShapes Go.ChangeAt Go.RowKit

theorem step_append_runI {ops : Array Oper} {o : Oper} {a : Act} {w : World} {K : Act → World → Prop} {Q : Exit → Act → World → Prop} {E : Prop} (hg : o.guard = none) (s x : Operand) (t : TypeId)
    (ho : o.op = .call { callee := .builtin .append, args := #[s, x], argTypes := #[t, t] }) (u v : Value) (hs : a.eval s = u) (hx : a.eval x = v) {r : Value} {w' : World}
    (hrun : (Builtin.append_ #[t, t] o.type #[u, v]).run Tryz.prog w = .ok r w') (h : K (a.put o.dst r) w') :
    if Region.wanted o (yielded ops a.tmps) = true then Oper.wp Tryz.prog o a w K Q else E := by
  rw [if_pos (by simp [Region.wanted, hg])]
  unfold Oper.wp execOp
  simp only [ho, resolve, invoke, builtin, Sem.run_bind, Sem.run_pure, Result.andThen_ok, List.map_toArray, List.map_cons, List.map_nil, hs, hx, hrun]
  exact h
theorem Wk.drew {B b : Nat} {W : World} {x : Dv} (h : Wk B W b x) : Wk B W.drew b x := h.below (Below.refl _ _).drew

end Go.Proofs.YtimhaidiclbnhaaGreat.Des
