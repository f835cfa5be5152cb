/- Layer 46, shared texts of this seat, part 17. -/
import Derived.Test.YtimhaidiclbnhaaGreatM16
/- Mapping an area. -/
set_option linter.unusedSimpArgs false
set_option linter.unusedVariables false
set_option maxRecDepth 100000
namespace Go.Proofs.YtimhaidiclbnhaaGreat.Ara
open Go.ChangeShapes Go.WideShapes Go.ChangeAt Go.RowKit

def hitB (a x : Ar) : Bool := decide (x.st < a.st + a.cn ∧ a.st < x.st + x.cn)
def posTo (l : List Ar) (a : Ar) (k : Nat) : Nat := (l.take k).countP fun x => decide (x.st < a.st)
def hitTo (l : List Ar) (a : Ar) (k : Nat) : Bool := (l.take k).any (hitB a)
def mapV (l : List Ar) (a : Ar) : List Ar × Int :=
  if checkV l = false then (l, 1) else if rightB a = false then (l, 2) else if hitTo l a l.length = true then (l, 5) else if l.length = 8 then (l, 3) else (insAt l (posTo l a l.length) a, 0)
theorem posTo_succ (l : List Ar) (a : Ar) (k : Nat) (hk : k < l.length) : posTo l a (k + 1) = posTo l a k + if (l.getD k Ar.zero).st < a.st then 1 else 0 := by
  unfold posTo
  rw [List.take_succ_eq_append_getElem hk, List.countP_append, show l.getD k Ar.zero = l[k] from by simp [List.getD, hk]]
  simp [List.countP_cons]
theorem posTo_le (l : List Ar) (a : Ar) (k : Nat) : posTo l a k ≤ k := by
  unfold posTo
  exact Nat.le_trans List.countP_le_length (by rw [List.length_take]; omega)
theorem hitTo_succ (l : List Ar) (a : Ar) (k : Nat) (hk : k < l.length) : hitTo l a (k + 1) = (hitTo l a k || hitB a (l.getD k Ar.zero)) := by
  unfold hitTo
  rw [List.take_succ_eq_append_getElem hk, List.any_append, show l.getD k Ar.zero = l[k] from by simp [List.getD, hk]]
  simp
theorem hitTo_mono {l : List Ar} {a : Ar} {k : Nat} (h : hitTo l a k = true) (hk : k ≤ l.length) : hitTo l a l.length = true := by
  unfold hitTo at *
  obtain ⟨x, hx, he⟩ := List.any_eq_true.1 h
  rw [List.take_length]
  exact List.any_eq_true.2 ⟨x, List.mem_of_mem_take hx, he⟩
theorem ARow.ofOwn' {B : Nat} {a : Option Addr} {cap : Nat} {l : List Ar} {w : World} (h : w.ownsRow B 139 5 (.slice a l.length cap) l.length (flat l)) : ARow B a cap l w := by
  obtain ⟨a', c', he, _, hr⟩ := ARow.ofOwn h
  simp only [Value.slice.injEq] at he
  obtain ⟨rfl, _, rfl⟩ := he
  exact hr
/-- the contract of slices.Insert that mapping a onto l asks for -/
def InsOK (l : List Ar) (a : Ar) : Prop := ∀ (B : Nat) (b : Option Addr) (c vb : Nat) (W : World), W.ownsRow B 139 5 (.slice b l.length c) l.length (flat l) → B ≤ W.heap.size → Blk W vb a → Shp W vb → (∀ q, (Value.slice b l.length c).ownBlock = some q → q ≠ vb) →
  Calls Tryz.prog 134 #[.slice b l.length c, .int .i64 (posTo l a l.length : Int), .slice (some ⟨vb, 0, none⟩) 1 1] W (InsPost B l (posTo l a l.length) a W)
theorem Shp.new (w : World) (s c f p : Int) (b : Bool) : Shp (w.alloc (.cells #[.int .i64 s, .int .i64 c, .int .i64 f, .int .i64 p, .bool b] 139)) w.heap.size := by
  constructor
  · simp only [World.shape?]
    rw [heap_alloc_new]
    rfl
  · intro o
    exact World.frozen?_alloc_at (w := w) _ _ _ o rfl
theorem insOK_end {l : List Ar} {a : Ar} (hl : l.length ≤ 100) (h : posTo l a l.length = l.length) : InsOK l a := by
  intro B b c vb W ho hB hv hs hne
  rw [h]
  exact insert_end B b c l a vb W ho hB hl ⟨hv.c0, hv.c1, hv.c2, hv.c3, hv.c4⟩
theorem insOK_any {l : List Ar} (a : Ar) (hl : l.length ≤ 100) : InsOK l a := by
  by_cases h : posTo l a l.length = l.length
  · exact insOK_end hl h
  · intro B b c vb W ho hB hv hs hne
    have hi : posTo l a l.length < l.length := by have := posTo_le l a l.length; omega
    rcases ho.2 with ⟨hn, hn2⟩ | ⟨g, c', cur, hg, _, _, hg3, _⟩
    · omega
    · cases hg
      have hne2 : vb ≠ g := fun e => hne g rfl e.symm
      by_cases hc : c = l.length
      · exact insert_grow B g c _ vb l a W ho hB hl hi hc hv
      · exact insert_shift B g c _ vb l a W ho hl hi (by omega) hv hs hne2

set_option maxHeartbeats 8000000 in
theorem map_any (B : Nat) (b : Option Addr) (l : List Ar) (cap : Nat) (a : Ar) (w : World) (h : ARow B b cap l w) (hl : l.length ≤ 100) (hI : InsOK l a) :
    Calls Tryz.prog 106 #[.slice b l.length cap, arVal a] w fun e w' => ∃ b' c', e = .returned (.tuple #[.slice b' (mapV l a).1.length c', .int .i64 (mapV l a).2]) ∧ ARow w.heap.size b' c' (mapV l a).1 w' ∧ Below w.heap.size w w' := by
  have HA : Hid (∀ W, Below w.heap.size w W → ∀ j, j < l.length → ∃ g, b = some ⟨g, 0, none⟩ ∧ g < W.heap.size ∧ (l.length : Int) ≤ cap ∧ Cel W g (j * 5) (l.getD j Ar.zero)) := by
    intro W hb j hj
    obtain ⟨g, h1, h2, h3, h4, h5, h6⟩ := (h.below hb).at (by omega)
    exact ⟨g, h1, h3, by omega, h6 j hj⟩
  have HCK : Hid (∀ W, Below w.heap.size w W → Calls Tryz.prog 131 #[.slice b l.length cap] W (RetW (.bool (checkV l)) W)) := fun W hb => check_any B b l cap W (h.below hb) hl
  have HCL : Hid (∀ W, Below w.heap.size w W → Calls Tryz.prog 130 #[.slice b l.length cap] W fun e w' => ∃ v, e = .returned v ∧ w'.ownsRow W.heap.size 139 5 v l.length (flat l) ∧ Below W.heap.size W w') := fun W hb => clone_any B b l cap W (h.below hb) (by omega)
  have HRI := Lib.hid (fun w => right_any a w)
  have HE : Hid (rightB a = true → ∀ w, Calls Tryz.prog 133 #[.agg #[.int .i64 a.st, .int .i64 a.cn, .int .i64 a.fi, .int .i64 a.pg, .bool a.wr]] w (RetW (.int .i64 (a.st + a.cn)) w)) := fun hr w => by
    have := rightB_iff.1 hr
    exact end_any a w (by omega) (by omega)
  have HR : Hid (checkV l = true → ∀ j, j < l.length → 0 ≤ (l.getD j Ar.zero).st ∧ 1 ≤ (l.getD j Ar.zero).cn ∧ (l.getD j Ar.zero).st + (l.getD j Ar.zero).cn ≤ 64) := fun hc j hj => by
    have := rightB_iff.1 (check_right hc j hj).1
    omega
  have HAR : Hid (rightB a = true → 0 ≤ a.st ∧ 1 ≤ a.cn ∧ a.st + a.cn ≤ 64) := fun hr => by have := rightB_iff.1 hr; omega
  have HV1 : Hid (checkV l = false → mapV l a = (l, 1)) := fun hc => by unfold mapV; rw [if_pos hc]
  have HV2 : Hid (checkV l = true → rightB a = false → mapV l a = (l, 2)) := fun hc hr => by unfold mapV; rw [if_neg (by rw [hc]; simp), if_pos hr]
  have HV3 : Hid (checkV l = true → rightB a = true → hitTo l a l.length = true → mapV l a = (l, 5)) := fun hc hr hh => by unfold mapV; rw [if_neg (by rw [hc]; simp), if_neg (by rw [hr]; simp), if_pos hh]
  have HV4 : Hid (checkV l = true → rightB a = true → hitTo l a l.length = false → mapV l a = if l.length = 8 then (l, 3) else (insAt l (posTo l a l.length) a, 0)) := fun hc hr hh => by unfold mapV; rw [if_neg (by rw [hc]; simp), if_neg (by rw [hr]; simp), if_neg (by rw [hh]; simp)]
  have HIN := Lib.hid hI
  clear h hI
  unfold arVal
  obtain ⟨s, c, f, p, wb⟩ := a
  simp only at HRI HE HAR
  go_enter Tryz.func106, Tryz.ntmps106
  go_wp2_with fail
  have hbl := Blk.new w s c f p wb
  have HB : Hid (Below w.heap.size w (w.alloc (Obj.cells #[Value.int IntKind.i64 s, Value.int IntKind.i64 c, Value.int IntKind.i64 f, Value.int IntKind.i64 p, Value.bool wb] 139))) := (Below.refl _ w).alloc (Nat.le_refl _) _
  have hsz : (w.alloc (Obj.cells #[Value.int IntKind.i64 s, Value.int IntKind.i64 c, Value.int IntKind.i64 f, Value.int IntKind.i64 p, Value.bool wb] 139)).heap.size = w.heap.size + 1 := by simp
  generalize w.alloc (Obj.cells #[Value.int IntKind.i64 s, Value.int IntKind.i64 c, Value.int IntKind.i64 f, Value.int IntKind.i64 p, Value.bool wb] 139) = w1 at *
  refine (HCL.out _ HB.out).mono ?_; rintro e w2 ⟨v, rfl, ho, hb⟩
  rw [hsz] at ho
  obtain ⟨b2, c2, rfl, _, _⟩ := ARow.ofOwn ho
  have HO := Lib.hid ho
  have HPB := Lib.hid (hbl.below hb)
  replace HB := Lib.hid (HB.out.trans (hb.mono HB.out.size))
  clear hbl ho hb hsz HCL
  go_wp2_with fail
  refine (HCK.out _ HB.out).mono ?_; rintro e w3 ⟨rfl, hb⟩
  replace HB := Lib.hid (HB.out.trans (hb.mono HB.out.size))
  replace HO := Lib.hid (own_below HO.out hb)
  replace HPB := Lib.hid (HPB.out.below hb)
  clear hb
  clear HCK
  cases hcv : checkV l with
  | false =>
    have HVV := Lib.hid (HV1.out hcv)
    clear HV1 HV2 HV3 HV4 HR
    go_wp2_with fail
    go_ret2
    exact ⟨b2, c2, by rw [HVV.out]; rfl, by rw [HVV.out]; exact ((ARow.ofOwn' HO.out).mono (Nat.le_succ _)), HB.out⟩
  | true =>
    have HR2 := Lib.hid (HR.out hcv)
    replace HV2 := Lib.hid (HV2.out hcv); replace HV3 := Lib.hid (HV3.out hcv); replace HV4 := Lib.hid (HV4.out hcv)
    clear HV1 HR
    clear hcv
    have c0 := HPB.out.c0; have c1 := HPB.out.c1; have c2_ := HPB.out.c2; have c3 := HPB.out.c3; have c4 := HPB.out.c4
    simp only at c0 c1 c2_ c3 c4
    go_wp2_with fail
    refine (HRI.out _).mono ?_; rintro e w4 ⟨rfl, hb⟩
    clear c0 c1 c2_ c3 c4 HRI
    replace HB := Lib.hid (HB.out.trans (hb.mono HB.out.size))
    replace HO := Lib.hid (own_below HO.out hb)
    replace HPB := Lib.hid (HPB.out.below hb)
    clear hb
    cases hrv : rightB ⟨s, c, f, p, wb⟩ with
    | false =>
      have HVV := Lib.hid (HV2.out hrv)
      clear HV2 HV3 HV4 HE HAR
      go_wp2_with fail
      go_ret2
      exact ⟨b2, c2, by rw [HVV.out]; rfl, by rw [HVV.out]; exact ((ARow.ofOwn' HO.out).mono (Nat.le_succ _)), HB.out⟩
    | true =>
      replace HV3 := Lib.hid (HV3.out hrv); replace HV4 := Lib.hid (HV4.out hrv); replace HE := Lib.hid (HE.out hrv)
      obtain ⟨a1, a2, a3⟩ := HAR.out hrv
      clear HV2 HAR hrv
      go_wp2_with fail
      go_loopw [7, 22] (fun v7 v22 wr => ∃ k : Nat, k ≤ l.length ∧ v7 = .int .i64 (posTo l ⟨s, c, f, p, wb⟩ k : Int) ∧ v22 = .int .i64 k ∧ Hid (Below w.heap.size w wr) ∧ Hid (wr.ownsRow (w.heap.size + 1) 139 5 (.slice b2 l.length c2) l.length (flat l)) ∧ Hid (Blk wr w.heap.size ⟨s, c, f, p, wb⟩) ∧ Hid (hitTo l ⟨s, c, f, p, wb⟩ k = false)) (fun _ v22 _ => 200 - (intOf v22).toNat)
      case atStart => exact ⟨0, Nat.zero_le _, rfl, rfl, HB, HO, HPB, rfl⟩
      case round =>
        clear HB HO HPB
        obtain ⟨k, hk, rfl, rfl, HB, HO, HPB, HHT⟩ := hrel
        by_cases hlt : k < l.length
        · have hlt' : (k : Int) < (l.length : Int) := by omega
          obtain ⟨g, rfl, hg, hcap, hcel⟩ := HA.out _ HB.out k hlt
          obtain ⟨e1, e2, e3⟩ := HR2.out k hlt
          have hps := posTo_succ l ⟨s, c, f, p, wb⟩ k hlt
          have hhs := hitTo_succ l ⟨s, c, f, p, wb⟩ k hlt
          have hmo := @hitTo_mono l ⟨s, c, f, p, wb⟩ (k + 1)
          rw [HHT.out, Bool.false_or] at hhs
          clear HA
          generalize l.getD k Ar.zero = e at *
          obtain ⟨es, ec, ef, ep, eb⟩ := e
          obtain ⟨k0, k1, k2, k3, k4⟩ := hcel
          simp only at k0 k1 k2 k3 k4 e1 e2 e3 hps
          have hhb : hitB ⟨s, c, f, p, wb⟩ ⟨es, ec, ef, ep, eb⟩ = decide (es < s + c ∧ s < es + ec) := rfl
          rw [hhb] at hhs
          have HPS := Lib.hid hps
          have HHS := Lib.hid hhs
          have HMO := Lib.hid hmo
          clear hps hhs hmo hhb
          have HEX := Lib.hid (fun w => end_any ⟨es, ec, ef, ep, eb⟩ w (by simp only; omega) (by simp only; omega))
          simp only at HEX
          have HXB := Lib.hid (Blk.new wr es ec ef ep eb)
          replace HPB := Lib.hid (HPB.out.below ((Below.refl wr.heap.size wr).alloc (Nat.le_refl _) (Obj.cells #[Value.int IntKind.i64 es, Value.int IntKind.i64 ec, Value.int IntKind.i64 ef, Value.int IntKind.i64 ep, Value.bool eb] 139)))
          replace HB := Lib.hid (HB.out.alloc HB.out.size (Obj.cells #[Value.int IntKind.i64 es, Value.int IntKind.i64 ec, Value.int IntKind.i64 ef, Value.int IntKind.i64 ep, Value.bool eb] 139))
          replace HO := Lib.hid (HO.out.alloc (Obj.cells #[Value.int IntKind.i64 es, Value.int IntKind.i64 ec, Value.int IntKind.i64 ef, Value.int IntKind.i64 ep, Value.bool eb] 139))
          go_wp2_with fail
          generalize wr.alloc (Obj.cells #[Value.int IntKind.i64 es, Value.int IntKind.i64 ec, Value.int IntKind.i64 ef, Value.int IntKind.i64 ep, Value.bool eb] 139) = w5 at *
          generalize wr.heap.size = A at *
          clear k0 k1 k2 k3 k4
          have cc0 := HXB.out.c0; have cc1 := HXB.out.c1; have cc2 := HXB.out.c2; have cc3 := HXB.out.c3; have cc4 := HXB.out.c4
          have dd0 := HPB.out.c0; have dd1 := HPB.out.c1; have dd2 := HPB.out.c2; have dd3 := HPB.out.c3; have dd4 := HPB.out.c4
          simp only at cc0 cc1 cc2 cc3 cc4 dd0 dd1 dd2 dd3 dd4
          replace HB := Lib.hid HB.out.drew
          replace HO := Lib.hid HO.out.drew
          replace HPB := Lib.hid (HPB.out.below (Below.refl _ _).drew)
          replace HXB := Lib.hid (HXB.out.below (Below.refl _ _).drew)
          by_cases h1 : es < s + c
          · by_cases h2 : s < es + ec
            · have HH1 : Hid (hitTo l ⟨s, c, f, p, wb⟩ l.length = true) := HMO.out (by rw [HHS.out]; exact decide_eq_true ⟨h1, h2⟩) (by omega)
              have HVV := Lib.hid (HV3.out HH1.out)
              refine wp_region_held_drew (S := fun w' => w'.cell? ⟨A, 0, none⟩ = some (.int .i64 es) ∧ w'.cell? ⟨A, 1, none⟩ = some (.int .i64 ec) ∧ w'.cell? ⟨A, 2, none⟩ = some (.int .i64 ef) ∧ w'.cell? ⟨A, 3, none⟩ = some (.int .i64 ep) ∧ w'.cell? ⟨A, 4, none⟩ = some (.bool eb) ∧ w'.cell? ⟨w.heap.size, 0, none⟩ = some (.int .i64 s) ∧ w'.cell? ⟨w.heap.size, 1, none⟩ = some (.int .i64 c) ∧ w'.cell? ⟨w.heap.size, 2, none⟩ = some (.int .i64 f) ∧ w'.cell? ⟨w.heap.size, 3, none⟩ = some (.int .i64 p) ∧ w'.cell? ⟨w.heap.size, 4, none⟩ = some (.bool wb)) (by kernel_rfl) (by (try dsimp only); (first | exact ⟨cc0, cc1, cc2, cc3, cc4, dd0, dd1, dd2, dd3, dd4⟩ | go_keep)) (fun hHeld => ?_)
              refine wpAnyH_take (i := 0) (oi := { dst := some 26, op := Op.fieldAddr 139 (Operand.tmp 9) 0, type := 0, pos := "area.go:46", after := #[], guard := none }) (v := ?_) rfl (by kernel_rfl) (by kernel_rfl) (by kernel_rfl) (fun _ _ _ h => h) (Or.inl ⟨by rfl, ?_⟩) (by assumption) ?_
              rotate_left
              focus ((intro w hSw; (try dsimp only at hSw); go_simp) <;> (try with_reducible rfl))
              try simp only [Act.put, List.setIfInBounds_toArray, List.set_cons_zero, List.set_cons_succ]
              refine wpAnyH_take (i := 1) (oi := { dst := some 27, op := Op.load 3 (Operand.tmp 26), type := 3, pos := "area.go:46", after := #[{ on := 0, ground := Ground.data }], guard := none }) (v := ?_) rfl (by kernel_rfl) (by kernel_rfl) (by kernel_rfl) (fun _ _ _ h => h) (Or.inl ⟨by rfl, ?_⟩) (by assumption) ?_
              rotate_left
              focus ((intro w hSw; (try dsimp only at hSw); go_simp) <;> (try with_reducible rfl))
              try simp only [Act.put, List.setIfInBounds_toArray, List.set_cons_zero, List.set_cons_succ]
              refine wpAnyH_take (i := 2) (oi := { dst := some 28, op := Op.load 139 (Operand.tmp 3), type := 139, pos := "area.go:46", after := #[], guard := none }) (v := ?_) rfl (by kernel_rfl) (by kernel_rfl) (by kernel_rfl) (fun _ _ _ h => h) (Or.inl ⟨by rfl, ?_⟩) (by assumption) ?_
              rotate_left
              focus ((intro w hSw; (try dsimp only at hSw); go_simp) <;> (try with_reducible rfl))
              try simp only [Act.put, List.setIfInBounds_toArray, List.set_cons_zero, List.set_cons_succ]
              refine wpAnyH_ready (rs := [3]) (by kernel_rfl) (by simp) ?_
              refine AllReadyH.cons (o := { dst := some 29, op := Op.call { callee := Callee.value (Operand.func 133), args := #[Operand.tmp 28], argTypes := #[139] }, type := 3, pos := "area.go:46", after := #[{ on := 2, ground := Ground.data }], guard := none }) rfl (fun K hK => ?_) AllReadyH.nil
              go_simp
              (first | (go_at_call 133; (with_reducible refine (HE.out _).mono ?_); rintro e w6 ⟨rfl, hb⟩; replace HB := Lib.hid (HB.out.trans (hb.mono HB.out.size)); replace HO := Lib.hid (own_below HO.out hb); replace HPB := Lib.hid (HPB.out.below hb); replace HXB := Lib.hid (HXB.out.below hb); have cc0 := HXB.out.c0; have cc1 := HXB.out.c1; have cc2 := HXB.out.c2; have cc3 := HXB.out.c3; have cc4 := HXB.out.c4; have dd0 := HPB.out.c0; have dd1 := HPB.out.c1; have dd2 := HPB.out.c2; have dd3 := HPB.out.c3; have dd4 := HPB.out.c4; simp only at cc0 cc1 cc2 cc3 cc4 dd0 dd1 dd2 dd3 dd4; clear hb) | (go_at_call 133; (with_reducible refine (HEX.out _).mono ?_); rintro e w7 ⟨rfl, hb⟩; replace HB := Lib.hid (HB.out.trans (hb.mono HB.out.size)); replace HO := Lib.hid (own_below HO.out hb); replace HPB := Lib.hid (HPB.out.below hb); replace HXB := Lib.hid (HXB.out.below hb); have cc0 := HXB.out.c0; have cc1 := HXB.out.c1; have cc2 := HXB.out.c2; have cc3 := HXB.out.c3; have cc4 := HXB.out.c4; have dd0 := HPB.out.c0; have dd1 := HPB.out.c1; have dd2 := HPB.out.c2; have dd3 := HPB.out.c3; have dd4 := HPB.out.c4; simp only at cc0 cc1 cc2 cc3 cc4 dd0 dd1 dd2 dd3 dd4; clear hb))
              go_wp2_with fail
              refine hK.out _ _ (by (try dsimp only); (first | exact ⟨cc0, cc1, cc2, cc3, cc4, dd0, dd1, dd2, dd3, dd4⟩ | go_keep)) (fun hHeld => ?_)
              clear hK K
              try simp only [Act.put, List.setIfInBounds_toArray, List.set_cons_zero, List.set_cons_succ]
              refine wpAnyH_take (i := 4) (oi := { dst := some 30, op := Op.binOp BinOp.lss 3 (Operand.tmp 27) (Operand.tmp 29) 3, type := 4, pos := "area.go:46", after := #[{ on := 1, ground := Ground.data }, { on := 3, ground := Ground.data }], guard := none }) (v := ?_) rfl (by kernel_rfl) (by kernel_rfl) (by kernel_rfl) (fun _ _ _ h => h) (Or.inl ⟨by rfl, ?_⟩) (by assumption) ?_
              rotate_left
              focus ((intro w hSw; (try dsimp only at hSw); go_simp) <;> (try with_reducible rfl))
              try simp only [Act.put, List.setIfInBounds_toArray, List.set_cons_zero, List.set_cons_succ]
              refine wpAnyH_take (i := 5) (oi := { dst := some 31, op := Op.move (Operand.tmp 30), type := 4, pos := "area.go:46", after := #[{ on := 4, ground := Ground.data }, { on := 3, ground := Ground.chain }], guard := none }) (v := ?_) rfl (by kernel_rfl) (by kernel_rfl) (by kernel_rfl) (fun _ _ _ h => h) (Or.inl ⟨by rfl, ?_⟩) (by assumption) ?_
              rotate_left
              focus ((intro w hSw; (try dsimp only at hSw); go_simp) <;> (try with_reducible rfl))
              try simp only [Act.put, List.setIfInBounds_toArray, List.set_cons_zero, List.set_cons_succ]
              refine wpAnyH_take (i := 6) (oi := { dst := some 32, op := Op.fieldAddr 139 (Operand.tmp 3) 0, type := 0, pos := "area.go:46", after := #[{ on := 5, ground := Ground.guard }], guard := some (5, true) }) (v := ?_) rfl (by kernel_rfl) (by kernel_rfl) (by kernel_rfl) (fun _ _ _ h => h) (Or.inl ⟨by rfl, ?_⟩) (by assumption) ?_
              rotate_left
              focus ((intro w hSw; (try dsimp only at hSw); go_simp) <;> (try with_reducible rfl))
              try simp only [Act.put, List.setIfInBounds_toArray, List.set_cons_zero, List.set_cons_succ]
              refine wpAnyH_take (i := 7) (oi := { dst := some 33, op := Op.load 3 (Operand.tmp 32), type := 3, pos := "area.go:46", after := #[{ on := 6, ground := Ground.data }, { on := 5, ground := Ground.guard }], guard := some (5, true) }) (v := ?_) rfl (by kernel_rfl) (by kernel_rfl) (by kernel_rfl) (fun _ _ _ h => h) (Or.inl ⟨by rfl, ?_⟩) (by assumption) ?_
              rotate_left
              focus ((intro w hSw; (try dsimp only at hSw); go_simp) <;> (try with_reducible rfl))
              try simp only [Act.put, List.setIfInBounds_toArray, List.set_cons_zero, List.set_cons_succ]
              refine wpAnyH_take (i := 8) (oi := { dst := some 34, op := Op.load 139 (Operand.tmp 9), type := 139, pos := "area.go:46", after := #[{ on := 5, ground := Ground.guard }], guard := some (5, true) }) (v := ?_) rfl (by kernel_rfl) (by kernel_rfl) (by kernel_rfl) (fun _ _ _ h => h) (Or.inl ⟨by rfl, ?_⟩) (by assumption) ?_
              rotate_left
              focus ((intro w hSw; (try dsimp only at hSw); go_simp) <;> (try with_reducible rfl))
              try simp only [Act.put, List.setIfInBounds_toArray, List.set_cons_zero, List.set_cons_succ]
              refine wpAnyH_ready (rs := [9]) (by kernel_rfl) (by simp) ?_
              refine AllReadyH.cons (o := { dst := some 35, op := Op.call { callee := Callee.value (Operand.func 133), args := #[Operand.tmp 34], argTypes := #[139] }, type := 3, pos := "area.go:46", after := #[{ on := 8, ground := Ground.data }, { on := 5, ground := Ground.chain }, { on := 5, ground := Ground.guard }], guard := some (5, true) }) rfl (fun K hK => ?_) AllReadyH.nil
              go_simp
              (first | (go_at_call 133; (with_reducible refine (HE.out _).mono ?_); rintro e w6 ⟨rfl, hb⟩; replace HB := Lib.hid (HB.out.trans (hb.mono HB.out.size)); replace HO := Lib.hid (own_below HO.out hb); replace HPB := Lib.hid (HPB.out.below hb); replace HXB := Lib.hid (HXB.out.below hb); have cc0 := HXB.out.c0; have cc1 := HXB.out.c1; have cc2 := HXB.out.c2; have cc3 := HXB.out.c3; have cc4 := HXB.out.c4; have dd0 := HPB.out.c0; have dd1 := HPB.out.c1; have dd2 := HPB.out.c2; have dd3 := HPB.out.c3; have dd4 := HPB.out.c4; simp only at cc0 cc1 cc2 cc3 cc4 dd0 dd1 dd2 dd3 dd4; clear hb) | (go_at_call 133; (with_reducible refine (HEX.out _).mono ?_); rintro e w7 ⟨rfl, hb⟩; replace HB := Lib.hid (HB.out.trans (hb.mono HB.out.size)); replace HO := Lib.hid (own_below HO.out hb); replace HPB := Lib.hid (HPB.out.below hb); replace HXB := Lib.hid (HXB.out.below hb); have cc0 := HXB.out.c0; have cc1 := HXB.out.c1; have cc2 := HXB.out.c2; have cc3 := HXB.out.c3; have cc4 := HXB.out.c4; have dd0 := HPB.out.c0; have dd1 := HPB.out.c1; have dd2 := HPB.out.c2; have dd3 := HPB.out.c3; have dd4 := HPB.out.c4; simp only at cc0 cc1 cc2 cc3 cc4 dd0 dd1 dd2 dd3 dd4; clear hb))
              go_wp2_with fail
              refine hK.out _ _ (by (try dsimp only); (first | exact ⟨cc0, cc1, cc2, cc3, cc4, dd0, dd1, dd2, dd3, dd4⟩ | go_keep)) (fun hHeld => ?_)
              clear hK K
              try simp only [Act.put, List.setIfInBounds_toArray, List.set_cons_zero, List.set_cons_succ]
              refine wpAnyH_take (i := 10) (oi := { dst := some 36, op := Op.binOp BinOp.lss 3 (Operand.tmp 33) (Operand.tmp 35) 3, type := 4, pos := "area.go:46", after := #[{ on := 7, ground := Ground.data }, { on := 9, ground := Ground.data }, { on := 5, ground := Ground.guard }], guard := some (5, true) }) (v := ?_) rfl (by kernel_rfl) (by kernel_rfl) (by kernel_rfl) (fun _ _ _ h => h) (Or.inl ⟨by rfl, ?_⟩) (by assumption) ?_
              rotate_left
              focus ((intro w hSw; (try dsimp only at hSw); go_simp) <;> (try with_reducible rfl))
              try simp only [Act.put, List.setIfInBounds_toArray, List.set_cons_zero, List.set_cons_succ]
              refine wpAnyH_take (i := 11) (oi := { dst := some 37, op := Op.pick (Operand.tmp 31) (Operand.tmp 36) (Operand.const (Value.bool false)), type := 4, pos := "area.go:46", after := #[{ on := 5, ground := Ground.data }, { on := 10, ground := Ground.data }], guard := none }) (v := ?_) rfl (by kernel_rfl) (by kernel_rfl) (by kernel_rfl) (fun _ _ _ h => h) (Or.inl ⟨by rfl, ?_⟩) (by assumption) ?_
              rotate_left
              focus ((intro w hSw; (try dsimp only at hSw); go_simp) <;> (try with_reducible rfl))
              try simp only [Act.put, List.setIfInBounds_toArray, List.set_cons_zero, List.set_cons_succ]
              refine wpAnyH_done (by kernel_rfl) ?_ _
              go_wp2_with fail
              go_ret2
              exact ⟨b2, c2, by rw [HVV.out]; rfl, by rw [HVV.out]; exact ((ARow.ofOwn' HO.out).mono (Nat.le_succ _)), HB.out⟩
            · have HHS2 : Hid (hitTo l ⟨s, c, f, p, wb⟩ (k + 1) = false) := by rw [Hid, HHS.out]; exact decide_eq_false (by omega)
              have h3 : es + ec ≤ s := by omega
              have hsl : es < s := by omega
              refine wp_region_held_drew (S := fun w' => w'.cell? ⟨A, 0, none⟩ = some (.int .i64 es) ∧ w'.cell? ⟨A, 1, none⟩ = some (.int .i64 ec) ∧ w'.cell? ⟨A, 2, none⟩ = some (.int .i64 ef) ∧ w'.cell? ⟨A, 3, none⟩ = some (.int .i64 ep) ∧ w'.cell? ⟨A, 4, none⟩ = some (.bool eb) ∧ w'.cell? ⟨w.heap.size, 0, none⟩ = some (.int .i64 s) ∧ w'.cell? ⟨w.heap.size, 1, none⟩ = some (.int .i64 c) ∧ w'.cell? ⟨w.heap.size, 2, none⟩ = some (.int .i64 f) ∧ w'.cell? ⟨w.heap.size, 3, none⟩ = some (.int .i64 p) ∧ w'.cell? ⟨w.heap.size, 4, none⟩ = some (.bool wb)) (by kernel_rfl) (by (try dsimp only); (first | exact ⟨cc0, cc1, cc2, cc3, cc4, dd0, dd1, dd2, dd3, dd4⟩ | go_keep)) (fun hHeld => ?_)
              refine wpAnyH_take (i := 0) (oi := { dst := some 26, op := Op.fieldAddr 139 (Operand.tmp 9) 0, type := 0, pos := "area.go:46", after := #[], guard := none }) (v := ?_) rfl (by kernel_rfl) (by kernel_rfl) (by kernel_rfl) (fun _ _ _ h => h) (Or.inl ⟨by rfl, ?_⟩) (by assumption) ?_
              rotate_left
              focus ((intro w hSw; (try dsimp only at hSw); go_simp) <;> (try with_reducible rfl))
              try simp only [Act.put, List.setIfInBounds_toArray, List.set_cons_zero, List.set_cons_succ]
              refine wpAnyH_take (i := 1) (oi := { dst := some 27, op := Op.load 3 (Operand.tmp 26), type := 3, pos := "area.go:46", after := #[{ on := 0, ground := Ground.data }], guard := none }) (v := ?_) rfl (by kernel_rfl) (by kernel_rfl) (by kernel_rfl) (fun _ _ _ h => h) (Or.inl ⟨by rfl, ?_⟩) (by assumption) ?_
              rotate_left
              focus ((intro w hSw; (try dsimp only at hSw); go_simp) <;> (try with_reducible rfl))
              try simp only [Act.put, List.setIfInBounds_toArray, List.set_cons_zero, List.set_cons_succ]
              refine wpAnyH_take (i := 2) (oi := { dst := some 28, op := Op.load 139 (Operand.tmp 3), type := 139, pos := "area.go:46", after := #[], guard := none }) (v := ?_) rfl (by kernel_rfl) (by kernel_rfl) (by kernel_rfl) (fun _ _ _ h => h) (Or.inl ⟨by rfl, ?_⟩) (by assumption) ?_
              rotate_left
              focus ((intro w hSw; (try dsimp only at hSw); go_simp) <;> (try with_reducible rfl))
              try simp only [Act.put, List.setIfInBounds_toArray, List.set_cons_zero, List.set_cons_succ]
              refine wpAnyH_ready (rs := [3]) (by kernel_rfl) (by simp) ?_
              refine AllReadyH.cons (o := { dst := some 29, op := Op.call { callee := Callee.value (Operand.func 133), args := #[Operand.tmp 28], argTypes := #[139] }, type := 3, pos := "area.go:46", after := #[{ on := 2, ground := Ground.data }], guard := none }) rfl (fun K hK => ?_) AllReadyH.nil
              go_simp
              (first | (go_at_call 133; (with_reducible refine (HE.out _).mono ?_); rintro e w6 ⟨rfl, hb⟩; replace HB := Lib.hid (HB.out.trans (hb.mono HB.out.size)); replace HO := Lib.hid (own_below HO.out hb); replace HPB := Lib.hid (HPB.out.below hb); replace HXB := Lib.hid (HXB.out.below hb); have cc0 := HXB.out.c0; have cc1 := HXB.out.c1; have cc2 := HXB.out.c2; have cc3 := HXB.out.c3; have cc4 := HXB.out.c4; have dd0 := HPB.out.c0; have dd1 := HPB.out.c1; have dd2 := HPB.out.c2; have dd3 := HPB.out.c3; have dd4 := HPB.out.c4; simp only at cc0 cc1 cc2 cc3 cc4 dd0 dd1 dd2 dd3 dd4; clear hb) | (go_at_call 133; (with_reducible refine (HEX.out _).mono ?_); rintro e w7 ⟨rfl, hb⟩; replace HB := Lib.hid (HB.out.trans (hb.mono HB.out.size)); replace HO := Lib.hid (own_below HO.out hb); replace HPB := Lib.hid (HPB.out.below hb); replace HXB := Lib.hid (HXB.out.below hb); have cc0 := HXB.out.c0; have cc1 := HXB.out.c1; have cc2 := HXB.out.c2; have cc3 := HXB.out.c3; have cc4 := HXB.out.c4; have dd0 := HPB.out.c0; have dd1 := HPB.out.c1; have dd2 := HPB.out.c2; have dd3 := HPB.out.c3; have dd4 := HPB.out.c4; simp only at cc0 cc1 cc2 cc3 cc4 dd0 dd1 dd2 dd3 dd4; clear hb))
              go_wp2_with fail
              refine hK.out _ _ (by (try dsimp only); (first | exact ⟨cc0, cc1, cc2, cc3, cc4, dd0, dd1, dd2, dd3, dd4⟩ | go_keep)) (fun hHeld => ?_)
              clear hK K
              try simp only [Act.put, List.setIfInBounds_toArray, List.set_cons_zero, List.set_cons_succ]
              refine wpAnyH_take (i := 4) (oi := { dst := some 30, op := Op.binOp BinOp.lss 3 (Operand.tmp 27) (Operand.tmp 29) 3, type := 4, pos := "area.go:46", after := #[{ on := 1, ground := Ground.data }, { on := 3, ground := Ground.data }], guard := none }) (v := ?_) rfl (by kernel_rfl) (by kernel_rfl) (by kernel_rfl) (fun _ _ _ h => h) (Or.inl ⟨by rfl, ?_⟩) (by assumption) ?_
              rotate_left
              focus ((intro w hSw; (try dsimp only at hSw); go_simp) <;> (try with_reducible rfl))
              try simp only [Act.put, List.setIfInBounds_toArray, List.set_cons_zero, List.set_cons_succ]
              refine wpAnyH_take (i := 5) (oi := { dst := some 31, op := Op.move (Operand.tmp 30), type := 4, pos := "area.go:46", after := #[{ on := 4, ground := Ground.data }, { on := 3, ground := Ground.chain }], guard := none }) (v := ?_) rfl (by kernel_rfl) (by kernel_rfl) (by kernel_rfl) (fun _ _ _ h => h) (Or.inl ⟨by rfl, ?_⟩) (by assumption) ?_
              rotate_left
              focus ((intro w hSw; (try dsimp only at hSw); go_simp) <;> (try with_reducible rfl))
              try simp only [Act.put, List.setIfInBounds_toArray, List.set_cons_zero, List.set_cons_succ]
              refine wpAnyH_take (i := 6) (oi := { dst := some 32, op := Op.fieldAddr 139 (Operand.tmp 3) 0, type := 0, pos := "area.go:46", after := #[{ on := 5, ground := Ground.guard }], guard := some (5, true) }) (v := ?_) rfl (by kernel_rfl) (by kernel_rfl) (by kernel_rfl) (fun _ _ _ h => h) (Or.inl ⟨by rfl, ?_⟩) (by assumption) ?_
              rotate_left
              focus ((intro w hSw; (try dsimp only at hSw); go_simp) <;> (try with_reducible rfl))
              try simp only [Act.put, List.setIfInBounds_toArray, List.set_cons_zero, List.set_cons_succ]
              refine wpAnyH_take (i := 7) (oi := { dst := some 33, op := Op.load 3 (Operand.tmp 32), type := 3, pos := "area.go:46", after := #[{ on := 6, ground := Ground.data }, { on := 5, ground := Ground.guard }], guard := some (5, true) }) (v := ?_) rfl (by kernel_rfl) (by kernel_rfl) (by kernel_rfl) (fun _ _ _ h => h) (Or.inl ⟨by rfl, ?_⟩) (by assumption) ?_
              rotate_left
              focus ((intro w hSw; (try dsimp only at hSw); go_simp) <;> (try with_reducible rfl))
              try simp only [Act.put, List.setIfInBounds_toArray, List.set_cons_zero, List.set_cons_succ]
              refine wpAnyH_take (i := 8) (oi := { dst := some 34, op := Op.load 139 (Operand.tmp 9), type := 139, pos := "area.go:46", after := #[{ on := 5, ground := Ground.guard }], guard := some (5, true) }) (v := ?_) rfl (by kernel_rfl) (by kernel_rfl) (by kernel_rfl) (fun _ _ _ h => h) (Or.inl ⟨by rfl, ?_⟩) (by assumption) ?_
              rotate_left
              focus ((intro w hSw; (try dsimp only at hSw); go_simp) <;> (try with_reducible rfl))
              try simp only [Act.put, List.setIfInBounds_toArray, List.set_cons_zero, List.set_cons_succ]
              refine wpAnyH_ready (rs := [9]) (by kernel_rfl) (by simp) ?_
              refine AllReadyH.cons (o := { dst := some 35, op := Op.call { callee := Callee.value (Operand.func 133), args := #[Operand.tmp 34], argTypes := #[139] }, type := 3, pos := "area.go:46", after := #[{ on := 8, ground := Ground.data }, { on := 5, ground := Ground.chain }, { on := 5, ground := Ground.guard }], guard := some (5, true) }) rfl (fun K hK => ?_) AllReadyH.nil
              go_simp
              (first | (go_at_call 133; (with_reducible refine (HE.out _).mono ?_); rintro e w6 ⟨rfl, hb⟩; replace HB := Lib.hid (HB.out.trans (hb.mono HB.out.size)); replace HO := Lib.hid (own_below HO.out hb); replace HPB := Lib.hid (HPB.out.below hb); replace HXB := Lib.hid (HXB.out.below hb); have cc0 := HXB.out.c0; have cc1 := HXB.out.c1; have cc2 := HXB.out.c2; have cc3 := HXB.out.c3; have cc4 := HXB.out.c4; have dd0 := HPB.out.c0; have dd1 := HPB.out.c1; have dd2 := HPB.out.c2; have dd3 := HPB.out.c3; have dd4 := HPB.out.c4; simp only at cc0 cc1 cc2 cc3 cc4 dd0 dd1 dd2 dd3 dd4; clear hb) | (go_at_call 133; (with_reducible refine (HEX.out _).mono ?_); rintro e w7 ⟨rfl, hb⟩; replace HB := Lib.hid (HB.out.trans (hb.mono HB.out.size)); replace HO := Lib.hid (own_below HO.out hb); replace HPB := Lib.hid (HPB.out.below hb); replace HXB := Lib.hid (HXB.out.below hb); have cc0 := HXB.out.c0; have cc1 := HXB.out.c1; have cc2 := HXB.out.c2; have cc3 := HXB.out.c3; have cc4 := HXB.out.c4; have dd0 := HPB.out.c0; have dd1 := HPB.out.c1; have dd2 := HPB.out.c2; have dd3 := HPB.out.c3; have dd4 := HPB.out.c4; simp only at cc0 cc1 cc2 cc3 cc4 dd0 dd1 dd2 dd3 dd4; clear hb))
              go_wp2_with fail
              refine hK.out _ _ (by (try dsimp only); (first | exact ⟨cc0, cc1, cc2, cc3, cc4, dd0, dd1, dd2, dd3, dd4⟩ | go_keep)) (fun hHeld => ?_)
              clear hK K
              try simp only [Act.put, List.setIfInBounds_toArray, List.set_cons_zero, List.set_cons_succ]
              refine wpAnyH_take (i := 10) (oi := { dst := some 36, op := Op.binOp BinOp.lss 3 (Operand.tmp 33) (Operand.tmp 35) 3, type := 4, pos := "area.go:46", after := #[{ on := 7, ground := Ground.data }, { on := 9, ground := Ground.data }, { on := 5, ground := Ground.guard }], guard := some (5, true) }) (v := ?_) rfl (by kernel_rfl) (by kernel_rfl) (by kernel_rfl) (fun _ _ _ h => h) (Or.inl ⟨by rfl, ?_⟩) (by assumption) ?_
              rotate_left
              focus ((intro w hSw; (try dsimp only at hSw); go_simp) <;> (try with_reducible rfl))
              try simp only [Act.put, List.setIfInBounds_toArray, List.set_cons_zero, List.set_cons_succ]
              refine wpAnyH_take (i := 11) (oi := { dst := some 37, op := Op.pick (Operand.tmp 31) (Operand.tmp 36) (Operand.const (Value.bool false)), type := 4, pos := "area.go:46", after := #[{ on := 5, ground := Ground.data }, { on := 10, ground := Ground.data }], guard := none }) (v := ?_) rfl (by kernel_rfl) (by kernel_rfl) (by kernel_rfl) (fun _ _ _ h => h) (Or.inl ⟨by rfl, ?_⟩) (by assumption) ?_
              rotate_left
              focus ((intro w hSw; (try dsimp only at hSw); go_simp) <;> (try with_reducible rfl))
              try simp only [Act.put, List.setIfInBounds_toArray, List.set_cons_zero, List.set_cons_succ]
              refine wpAnyH_done (by kernel_rfl) ?_ _
              have HPS2 : Hid (posTo l ⟨s, c, f, p, wb⟩ (k + 1) = posTo l ⟨s, c, f, p, wb⟩ k + 1) := by rw [Hid, HPS.out, if_pos hsl]
              have hpl := posTo_le l ⟨s, c, f, p, wb⟩ k
              go_wp2_with fail
              go_roundw
              case rel => exact ⟨k + 1, by omega, by rw [HPS2.out]; go_num, by go_num, HB, HO, HPB, HHS2⟩
              case measure => simp [intOf]; omega
          · have HHS2 : Hid (hitTo l ⟨s, c, f, p, wb⟩ (k + 1) = false) := by rw [Hid, HHS.out]; exact decide_eq_false (by omega)
            have h3 : s + c ≤ es := by omega
            have h4 : decide (es < s + c) = false := decide_eq_false h1
            refine wp_region_held_drew (S := fun w' => w'.cell? ⟨A, 0, none⟩ = some (.int .i64 es) ∧ w'.cell? ⟨A, 1, none⟩ = some (.int .i64 ec) ∧ w'.cell? ⟨A, 2, none⟩ = some (.int .i64 ef) ∧ w'.cell? ⟨A, 3, none⟩ = some (.int .i64 ep) ∧ w'.cell? ⟨A, 4, none⟩ = some (.bool eb) ∧ w'.cell? ⟨w.heap.size, 0, none⟩ = some (.int .i64 s) ∧ w'.cell? ⟨w.heap.size, 1, none⟩ = some (.int .i64 c) ∧ w'.cell? ⟨w.heap.size, 2, none⟩ = some (.int .i64 f) ∧ w'.cell? ⟨w.heap.size, 3, none⟩ = some (.int .i64 p) ∧ w'.cell? ⟨w.heap.size, 4, none⟩ = some (.bool wb)) (by kernel_rfl) (by (try dsimp only); (first | exact ⟨cc0, cc1, cc2, cc3, cc4, dd0, dd1, dd2, dd3, dd4⟩ | go_keep)) (fun hHeld => ?_)
            refine wpAnyH_take (i := 0) (oi := { dst := some 26, op := Op.fieldAddr 139 (Operand.tmp 9) 0, type := 0, pos := "area.go:46", after := #[], guard := none }) (v := ?_) rfl (by kernel_rfl) (by kernel_rfl) (by kernel_rfl) (fun _ _ _ h => h) (Or.inl ⟨by rfl, ?_⟩) (by assumption) ?_
            rotate_left
            focus ((intro w hSw; (try dsimp only at hSw); go_simp) <;> (try with_reducible rfl))
            try simp only [Act.put, List.setIfInBounds_toArray, List.set_cons_zero, List.set_cons_succ]
            refine wpAnyH_take (i := 1) (oi := { dst := some 27, op := Op.load 3 (Operand.tmp 26), type := 3, pos := "area.go:46", after := #[{ on := 0, ground := Ground.data }], guard := none }) (v := ?_) rfl (by kernel_rfl) (by kernel_rfl) (by kernel_rfl) (fun _ _ _ h => h) (Or.inl ⟨by rfl, ?_⟩) (by assumption) ?_
            rotate_left
            focus ((intro w hSw; (try dsimp only at hSw); go_simp) <;> (try with_reducible rfl))
            try simp only [Act.put, List.setIfInBounds_toArray, List.set_cons_zero, List.set_cons_succ]
            refine wpAnyH_take (i := 2) (oi := { dst := some 28, op := Op.load 139 (Operand.tmp 3), type := 139, pos := "area.go:46", after := #[], guard := none }) (v := ?_) rfl (by kernel_rfl) (by kernel_rfl) (by kernel_rfl) (fun _ _ _ h => h) (Or.inl ⟨by rfl, ?_⟩) (by assumption) ?_
            rotate_left
            focus ((intro w hSw; (try dsimp only at hSw); go_simp) <;> (try with_reducible rfl))
            try simp only [Act.put, List.setIfInBounds_toArray, List.set_cons_zero, List.set_cons_succ]
            refine wpAnyH_ready (rs := [3]) (by kernel_rfl) (by simp) ?_
            refine AllReadyH.cons (o := { dst := some 29, op := Op.call { callee := Callee.value (Operand.func 133), args := #[Operand.tmp 28], argTypes := #[139] }, type := 3, pos := "area.go:46", after := #[{ on := 2, ground := Ground.data }], guard := none }) rfl (fun K hK => ?_) AllReadyH.nil
            go_simp
            (first | (go_at_call 133; (with_reducible refine (HE.out _).mono ?_); rintro e w6 ⟨rfl, hb⟩; replace HB := Lib.hid (HB.out.trans (hb.mono HB.out.size)); replace HO := Lib.hid (own_below HO.out hb); replace HPB := Lib.hid (HPB.out.below hb); replace HXB := Lib.hid (HXB.out.below hb); have cc0 := HXB.out.c0; have cc1 := HXB.out.c1; have cc2 := HXB.out.c2; have cc3 := HXB.out.c3; have cc4 := HXB.out.c4; have dd0 := HPB.out.c0; have dd1 := HPB.out.c1; have dd2 := HPB.out.c2; have dd3 := HPB.out.c3; have dd4 := HPB.out.c4; simp only at cc0 cc1 cc2 cc3 cc4 dd0 dd1 dd2 dd3 dd4; clear hb) | (go_at_call 133; (with_reducible refine (HEX.out _).mono ?_); rintro e w7 ⟨rfl, hb⟩; replace HB := Lib.hid (HB.out.trans (hb.mono HB.out.size)); replace HO := Lib.hid (own_below HO.out hb); replace HPB := Lib.hid (HPB.out.below hb); replace HXB := Lib.hid (HXB.out.below hb); have cc0 := HXB.out.c0; have cc1 := HXB.out.c1; have cc2 := HXB.out.c2; have cc3 := HXB.out.c3; have cc4 := HXB.out.c4; have dd0 := HPB.out.c0; have dd1 := HPB.out.c1; have dd2 := HPB.out.c2; have dd3 := HPB.out.c3; have dd4 := HPB.out.c4; simp only at cc0 cc1 cc2 cc3 cc4 dd0 dd1 dd2 dd3 dd4; clear hb))
            go_wp2_with fail
            refine hK.out _ _ (by (try dsimp only); (first | exact ⟨cc0, cc1, cc2, cc3, cc4, dd0, dd1, dd2, dd3, dd4⟩ | go_keep)) (fun hHeld => ?_)
            clear hK K
            try simp only [Act.put, List.setIfInBounds_toArray, List.set_cons_zero, List.set_cons_succ]
            refine wpAnyH_take (i := 4) (oi := { dst := some 30, op := Op.binOp BinOp.lss 3 (Operand.tmp 27) (Operand.tmp 29) 3, type := 4, pos := "area.go:46", after := #[{ on := 1, ground := Ground.data }, { on := 3, ground := Ground.data }], guard := none }) (v := ?_) rfl (by kernel_rfl) (by kernel_rfl) (by kernel_rfl) (fun _ _ _ h => h) (Or.inl ⟨by rfl, ?_⟩) (by assumption) ?_
            rotate_left
            focus ((intro w hSw; (try dsimp only at hSw); go_simp) <;> (try with_reducible rfl))
            try simp only [Act.put, List.setIfInBounds_toArray, List.set_cons_zero, List.set_cons_succ]
            refine wpAnyH_take (i := 5) (oi := { dst := some 31, op := Op.move (Operand.tmp 30), type := 4, pos := "area.go:46", after := #[{ on := 4, ground := Ground.data }, { on := 3, ground := Ground.chain }], guard := none }) (v := ?_) rfl (by kernel_rfl) (by kernel_rfl) (by kernel_rfl) (fun _ _ _ h => h) (Or.inl ⟨by rfl, ?_⟩) (by assumption) ?_
            rotate_left
            focus ((intro w hSw; (try dsimp only at hSw); go_simp) <;> (try with_reducible rfl))
            try simp only [Act.put, List.setIfInBounds_toArray, List.set_cons_zero, List.set_cons_succ]
            refine wpAnyH_take (i := 6) (oi := { dst := some 32, op := Op.fieldAddr 139 (Operand.tmp 3) 0, type := 0, pos := "area.go:46", after := #[{ on := 5, ground := Ground.guard }], guard := some (5, true) }) (v := undef) rfl (by kernel_rfl) (by kernel_rfl) (by kernel_rfl) (fun _ _ _ h => h) (Or.inr ⟨by rfl, rfl⟩) (by assumption) ?_
            try simp only [Act.put, List.setIfInBounds_toArray, List.set_cons_zero, List.set_cons_succ]
            refine wpAnyH_take (i := 7) (oi := { dst := some 33, op := Op.load 3 (Operand.tmp 32), type := 3, pos := "area.go:46", after := #[{ on := 6, ground := Ground.data }, { on := 5, ground := Ground.guard }], guard := some (5, true) }) (v := undef) rfl (by kernel_rfl) (by kernel_rfl) (by kernel_rfl) (fun _ _ _ h => h) (Or.inr ⟨by rfl, rfl⟩) (by assumption) ?_
            try simp only [Act.put, List.setIfInBounds_toArray, List.set_cons_zero, List.set_cons_succ]
            refine wpAnyH_take (i := 8) (oi := { dst := some 34, op := Op.load 139 (Operand.tmp 9), type := 139, pos := "area.go:46", after := #[{ on := 5, ground := Ground.guard }], guard := some (5, true) }) (v := undef) rfl (by kernel_rfl) (by kernel_rfl) (by kernel_rfl) (fun _ _ _ h => h) (Or.inr ⟨by rfl, rfl⟩) (by assumption) ?_
            try simp only [Act.put, List.setIfInBounds_toArray, List.set_cons_zero, List.set_cons_succ]
            refine wpAnyH_take (i := 9) (oi := { dst := some 35, op := Op.call { callee := Callee.value (Operand.func 133), args := #[Operand.tmp 34], argTypes := #[139] }, type := 3, pos := "area.go:46", after := #[{ on := 8, ground := Ground.data }, { on := 5, ground := Ground.chain }, { on := 5, ground := Ground.guard }], guard := some (5, true) }) (v := undef) rfl (by kernel_rfl) (by kernel_rfl) (by kernel_rfl) (fun _ _ _ h => h) (Or.inr ⟨by rfl, rfl⟩) (by assumption) ?_
            try simp only [Act.put, List.setIfInBounds_toArray, List.set_cons_zero, List.set_cons_succ]
            refine wpAnyH_take (i := 10) (oi := { dst := some 36, op := Op.binOp BinOp.lss 3 (Operand.tmp 33) (Operand.tmp 35) 3, type := 4, pos := "area.go:46", after := #[{ on := 7, ground := Ground.data }, { on := 9, ground := Ground.data }, { on := 5, ground := Ground.guard }], guard := some (5, true) }) (v := undef) rfl (by kernel_rfl) (by kernel_rfl) (by kernel_rfl) (fun _ _ _ h => h) (Or.inr ⟨by rfl, rfl⟩) (by assumption) ?_
            try simp only [Act.put, List.setIfInBounds_toArray, List.set_cons_zero, List.set_cons_succ]
            refine wpAnyH_take (i := 11) (oi := { dst := some 37, op := Op.pick (Operand.tmp 31) (Operand.tmp 36) (Operand.const (Value.bool false)), type := 4, pos := "area.go:46", after := #[{ on := 5, ground := Ground.data }, { on := 10, ground := Ground.data }], guard := none }) (v := ?_) rfl (by kernel_rfl) (by kernel_rfl) (by kernel_rfl) (fun _ _ _ h => h) (Or.inl ⟨by rfl, ?_⟩) (by assumption) ?_
            rotate_left
            focus ((intro w hSw; (try dsimp only at hSw); go_simp) <;> (try with_reducible rfl))
            try simp only [Act.put, List.setIfInBounds_toArray, List.set_cons_zero, List.set_cons_succ]
            refine wpAnyH_done (by kernel_rfl) ?_ _
            have hsl : ¬ es < s := by omega
            have HPS2 : Hid (posTo l ⟨s, c, f, p, wb⟩ (k + 1) = posTo l ⟨s, c, f, p, wb⟩ k) := by rw [Hid, HPS.out, if_neg hsl]; rfl
            have hsl2 : s ≤ es := by omega
            go_wp2_with fail
            go_roundw
            case rel => exact ⟨k + 1, by omega, by rw [HPS2.out], by go_num, HB, HO, HPB, HHS2⟩
            case measure => simp [intOf]; omega
        · obtain rfl : k = l.length := by omega
          have HVV := Lib.hid (HV4.out HHT.out)
          clear HV3 HV4
          by_cases h8 : l.length = 8
          · have hv := HVV.out
            rw [if_pos h8] at hv
            have HVW := Lib.hid hv
            have h9 : (l.length : Int) = 8 := by omega
            clear hv HVV
            have HVV := HVW
            go_wp2_with fail
            go_ret2
            exact ⟨b2, c2, by rw [HVV.out]; rfl, by rw [HVV.out]; exact ((ARow.ofOwn' HO.out).mono (Nat.le_succ _)), HB.out⟩
          · have hv := HVV.out
            rw [if_neg h8] at hv
            have HVW := Lib.hid hv
            have h9 : ¬ (l.length : Int) = 8 := by omega
            clear hv HVV
            have HVV := HVW
            have dd0 := HPB.out.c0; have dd1 := HPB.out.c1; have dd2 := HPB.out.c2; have dd3 := HPB.out.c3; have dd4 := HPB.out.c4
            simp only at dd0 dd1 dd2 dd3 dd4
            go_wp2_with fail
            have HI2 := Lib.hid (HIN.out (w.heap.size + 1) b2 c2 wr.heap.size _ (HO.out.alloc (Obj.cells #[Value.int IntKind.i64 s, Value.int IntKind.i64 c, Value.int IntKind.i64 f, Value.int IntKind.i64 p, Value.bool wb] 139)) (by have := HPB.out.hi; simp; omega) (Blk.new wr s c f p wb) (Shp.new wr s c f p wb) (fun q hq => by have := (HO.out.lt q hq).2; omega))
            have HB2 := Lib.hid (HB.out.alloc HB.out.size (Obj.cells #[Value.int IntKind.i64 s, Value.int IntKind.i64 c, Value.int IntKind.i64 f, Value.int IntKind.i64 p, Value.bool wb] 139))
            refine HI2.out.mono ?_
            rintro e w9 ⟨a9, c9, rfl, ho9, hb9⟩
            have HO9 := Lib.hid ho9
            have HB9 := Lib.hid (HB2.out.trans (hb9.mono (Nat.le_succ _)))
            clear ho9 hb9 HI2
            have hlen : (insAt l (posTo l ⟨s, c, f, p, wb⟩ l.length) ⟨s, c, f, p, wb⟩).length = l.length + 1 := by
              have := posTo_le l ⟨s, c, f, p, wb⟩ l.length
              simp [insAt]
              omega
            go_wp2_with fail
            go_ret2
            refine ⟨a9, c9, by rw [HVV.out]; show _ = Ending.returned (.tuple #[.slice a9 (insAt l (posTo l ⟨s, c, f, p, wb⟩ l.length) ⟨s, c, f, p, wb⟩).length c9, .int .i64 0]); rw [hlen]; rfl, ?_, HB9.out⟩
            rw [HVV.out]
            have h9 := HO9.out
            rw [← hlen] at h9
            exact (ARow.ofOwn' h9).mono (Nat.le_succ _)
end Go.Proofs.YtimhaidiclbnhaaGreat.Ara
