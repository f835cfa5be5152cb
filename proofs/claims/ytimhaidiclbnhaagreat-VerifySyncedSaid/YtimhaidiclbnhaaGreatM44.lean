/- Layer 46, shared texts of this seat, part 44. -/
import Derived.Test.YtimhaidiclbnhaaGreatM22
import Derived.Test.YtimhaidiclbnhaaGreatM43
import Derived.Test.YtimhaidiclbnhaaGreatM28
/- slices.IndexFunc and slices.ContainsFunc at rows of strings; which contents a history permits: the program's way. -/
set_option linter.unusedSimpArgs false
set_option linter.unusedVariables false
set_option maxRecDepth 100000
namespace Go.Proofs.YtimhaidiclbnhaaGreat.Con
open Go.ChangeShapes Go.WideShapes Go.ChangeAt Go.RowKit

def PredS (f : Nat) (lb : Array Value) (p : ByteArray → Bool) (L : List ByteArray) (w : World) : Prop :=
  ∀ (W : World) (x : ByteArray), x ∈ L → Below w.heap.size w W → Calls Tryz.prog f (#[.string x] ++ lb) W fun e w' => e = .returned (.bool (p x)) ∧ Below W.heap.size W w'

set_option maxHeartbeats 2000000 in
theorem index_any (f : Nat) (lb : Array Value) (eg : ∀ args w, (callFunc f args).run Tryz.prog w = .ok (.enter f args) w) (p : ByteArray → Bool) (g off n cap : Nat) (L : List ByteArray) (w : World) (hL : L.length = n) (hn : n ≤ 10000)
    (hp : PredS f lb p L w) (hg : g < w.heap.size) (hc : ∀ j, j < n → w.cell? ⟨g, off + j, none⟩ = some (.string (L.getD j ByteArray.empty))) :
    Calls Tryz.prog 41 #[.slice (some ⟨g, off, none⟩) n cap, .func (.func f) #[] lb] w fun e w' => (∃ r : Int, e = .returned (.int .i64 r) ∧ decide (0 ≤ r) = L.any p) ∧ Below w.heap.size w w' := by
  have HP := Lib.hid hp
  have HC := Lib.hid hc
  have HL : Hid (L.length = n) := hL
  clear hp hc hL
  go_enter Tryz.func41, Tryz.ntmps41
  go_wp2_with fail
  go_loopw [5, 8] (fun _ s8 wr => ∃ k : Nat, k ≤ n ∧ s8 = .int .i64 k ∧ Hid (Below w.heap.size w wr) ∧ Hid (∀ j, j < k → p (L.getD j ByteArray.empty) = false)) (fun _ s8 _ => 20000 - (intOf s8).toNat)
  case atStart => exact ⟨0, Nat.zero_le _, rfl, Below.refl _ w, fun j hj => absurd hj (Nat.not_lt_zero _)⟩
  case round =>
    obtain ⟨k, hk, rfl, HB, HF⟩ := hrel
    by_cases hlt : k < n
    · have hlt' : (k : Int) < (n : Int) := by omega
      have hcell : wr.cell? ⟨g, off + k, none⟩ = some (.string (L.getD k ByteArray.empty)) := by rw [HB.out.cell (p := ⟨g, off + k, none⟩) hg]; exact HC.out k hlt
      have hmem : L.getD k ByteArray.empty ∈ L := by
        have hkl : k < L.length := by rw [HL.out]; exact hlt
        simp [List.getD, hkl]
      have hcall := HP.out wr _ hmem HB.out
      have HFk := HF
      have hany : Hid (p (L.getD k ByteArray.empty) = true → L.any p = true) := fun h => List.any_eq_true.2 ⟨_, hmem, h⟩
      have hstep : Hid (p (L.getD k ByteArray.empty) = false → ∀ j, j < k + 1 → p (L.getD j ByteArray.empty) = false) := by
        intro h j hj
        by_cases e : j = k
        · rw [e]; exact h
        · exact HFk.out j (by omega)
      generalize L.getD k ByteArray.empty = y at hcell hcall hany hstep
      clear hmem HF HFk
      cases hq : p y with
      | true =>
        rw [hq] at hcall
        have ha := hany.out hq
        go_wp2_with (go_at_fn f; refine hcall.mono ?_; rintro e w' ⟨rfl, hb'⟩)
        go_ret
        exact ⟨⟨(k : Int), rfl, by rw [ha]; simp⟩, HB.out.trans (hb'.mono HB.out.size)⟩
      | false =>
        rw [hq] at hcall
        have HFn := Lib.hid (hstep.out hq)
        clear hany hstep
        go_wp2_with (go_at_fn f; refine hcall.mono ?_; rintro e w' ⟨rfl, hb'⟩)
        go_roundw
        case rel => exact ⟨k + 1, by omega, by go_num, HB.out.trans (hb'.mono HB.out.size), HFn⟩
        case measure => simp [intOf]; omega
    · have hge : (n : Int) ≤ (k : Int) := by omega
      have hno : Hid (L.any p = false) := by
        unfold Hid
        rw [List.any_eq_false]
        intro x hx
        obtain ⟨j, hj, rfl⟩ := List.mem_iff_getElem.1 hx
        have := HF.out j (by have := HL.out; omega)
        simp only [List.getD, List.getElem?_eq_getElem hj, Option.getD_some] at this
        simp [this]
      go_wp2_with fail
      go_ret
      exact ⟨⟨-1, rfl, by rw [hno.out]; rfl⟩, HB.out⟩

set_option maxHeartbeats 1000000 in
theorem contains_any (f : Nat) (lb : Array Value) (eg : ∀ args w, (callFunc f args).run Tryz.prog w = .ok (.enter f args) w) (p : ByteArray → Bool) (g off n cap : Nat) (L : List ByteArray) (w : World) (hL : L.length = n) (hn : n ≤ 10000)
    (hp : PredS f lb p L w) (hg : g < w.heap.size) (hc : ∀ j, j < n → w.cell? ⟨g, off + j, none⟩ = some (.string (L.getD j ByteArray.empty))) :
    Calls Tryz.prog 26 #[.slice (some ⟨g, off, none⟩) n cap, .func (.func f) #[] lb] w (RetW (.bool (L.any p)) w) := by
  have HI := Lib.hid (index_any f lb eg p g off n cap L w hL hn hp hg hc)
  clear hp hc hL
  generalize L.any p = r at *
  go_enter Tryz.func26, Tryz.ntmps26
  go_wp2_with (go_at_call 41; refine HI.out.mono ?_; rintro e w' ⟨⟨z, rfl, hz⟩, hb⟩)
  go_ret
  exact RetW.mk (by rw [← hz]; rfl) hb

set_option maxHeartbeats 1000000 in
/-- the first function value of May: the same byte at i -/
theorem pred_byte (i : Nat) (s : ByteArray) (L : List ByteArray) (bi bs : Nat) (w : World) (hi : w.cell? ⟨bi, 0, none⟩ = some (.int .i64 i)) (hs : w.cell? ⟨bs, 0, none⟩ = some (.string s)) (li : bi < w.heap.size) (ls : bs < w.heap.size)
    (hL : ∀ x, x ∈ L → x.size ≤ 10000) (hs2 : s.size ≤ 10000) :
    PredS 27 #[.pointer (some ⟨bi, 0, none⟩), .pointer (some ⟨bs, 0, none⟩)] (fun x => bat x i == bat s i) L w := by
  intro W x hx hb
  have ci : W.cell? ⟨bi, 0, none⟩ = some (.int .i64 i) := (hb.cell (p := ⟨bi, 0, none⟩) li).trans hi
  have cs : W.cell? ⟨bs, 0, none⟩ = some (.string s) := (hb.cell (p := ⟨bs, 0, none⟩) ls).trans hs
  show Calls Tryz.prog 27 #[.string x, .pointer (some ⟨bi, 0, none⟩), .pointer (some ⟨bs, 0, none⟩)] W _
  have h1 := fun w => byte_any x (i : Int) w (by have := hL x hx; unfold maxLen; omega)
  have h2 := fun w => byte_any s (i : Int) w (by unfold maxLen; omega)
  rw [if_neg (by omega), show ((i : Int)).toNat = i from by omega] at h1 h2
  change ∀ w, Calls Tryz.prog 28 #[.string x, .int .i64 i] w fun e w' => e = .returned (.int .u8 ((bat x i).toNat : Int)) ∧ w = w' at h1
  change ∀ w, Calls Tryz.prog 28 #[.string s, .int .i64 i] w fun e w' => e = .returned (.int .u8 ((bat s i).toNat : Int)) ∧ w = w' at h2
  have HE : Hid ((((bat x i).toNat : Int) == ((bat s i).toNat : Int)) = (bat x i == bat s i)) := by
    unfold Hid
    rw [Bool.eq_iff_iff]
    simp only [beq_iff_eq]
    constructor
    · intro h; exact UInt8.toNat_inj.1 (by omega)
    · intro h; rw [h]
  simp only
  rw [← HE.out]
  generalize ((bat x i).toNat : Int) = u at *
  generalize ((bat s i).toNat : Int) = v at *
  have H1 := Lib.hid h1; have H2 := Lib.hid h2
  clear h1 h2 HE hL hx hb
  go_enter Tryz.func27, Tryz.ntmps27
  go_wp2_with fail
  go_quiet (first | with_reducible exact (H1.out _).mono (fun _ _ h => ⟨h.1, _, h.2.symm⟩) | with_reducible exact (H2.out _).mono (fun _ _ h => ⟨h.1, _, h.2.symm⟩))
  go_wp2_with fail
  go_ret
  exact ⟨rfl, below_drewN (Below.refl _ _) _⟩

set_option maxHeartbeats 1000000 in
/-- the second function value of May: the same length -/
theorem pred_len (s : ByteArray) (L : List ByteArray) (bs : Nat) (w : World) (hs : w.cell? ⟨bs, 0, none⟩ = some (.string s)) (ls : bs < w.heap.size)
    (hL : ∀ x, x ∈ L → x.size ≤ 10000) (hs2 : s.size ≤ 10000) :
    PredS 29 #[.pointer (some ⟨bs, 0, none⟩)] (fun x => x.size == s.size) L w := by
  intro W x hx hb
  have cs : W.cell? ⟨bs, 0, none⟩ = some (.string s) := (hb.cell (p := ⟨bs, 0, none⟩) ls).trans hs
  have hxs := hL x hx
  show Calls Tryz.prog 29 #[.string x, .pointer (some ⟨bs, 0, none⟩)] W _
  have HE : Hid (((x.size : Int) == (s.size : Int)) = (x.size == s.size)) := by
    unfold Hid
    rw [Bool.eq_iff_iff]
    simp only [beq_iff_eq]
    omega
  simp only
  rw [← HE.out]
  clear HE hL hx hb
  go_enter Tryz.func29, Tryz.ntmps29
  go_wp2_with fail
  go_ret
  exact ⟨rfl, Below.refl _ _⟩

set_option maxHeartbeats 4000000 in
theorem may_any (B : Nat) (a : Option Addr) (l : List ByteArray) (cap : Nat) (q : Int) (s : ByteArray) (w : World) (h : StrRow B a cap l w) (hl : l.length ≤ 10000) (hs : ∀ x, x ∈ l → x.size ≤ 10000) (hs2 : s.size ≤ 10000) :
    Calls Tryz.prog 20 #[.agg #[.slice a l.length cap, .int .i64 q], .string s] w (RetW (.bool (mayV l q s)) w) := by
  by_cases hq : q < 0 ∨ (l.length : Int) ≤ q
  · have HR : Hid (mayV l q s = false) := mayV_out hq
    have HQ := Lib.hid hq
    clear hq
    go_enter Tryz.func20, Tryz.ntmps20
    go_wp2_with fail
    all_goals
      first
      | (exfalso; have := HQ.out; omega)
      | (go_ret
         exact RetW.mk (by rw [HR.out]; rfl) (((Below.refl _ w).alloc (Nat.le_refl _) _).alloc (by simp) _))
  · obtain ⟨q, rfl⟩ := Int.eq_ofNat_of_zero_le (show 0 ≤ q by omega)
    have hql : q < l.length := by omega
    rcases h with ⟨rfl, rfl, rfl⟩ | ⟨g, rfl, h2, h3, h4, h5, h6⟩
    · exact absurd hql (Nat.not_lt_zero _)
    have HV : Hid (mayV l (q : Int) s = (allTo l q s 128 && (l.drop q).any fun x => x.size == s.size)) := mayV_in hql
    have HL : Hid (∀ x, x ∈ l.drop q → x.size ≤ 10000) := fun x hx => hs x (List.mem_of_mem_drop hx)
    have HN : Hid ((l.drop q).length = l.length - q) := List.length_drop
    have HC : Hid (∀ j, j < l.length - q → w.cell? ⟨g, q + j, none⟩ = some (.string ((l.drop q).getD j ByteArray.empty))) := by
      intro j hj
      rw [h6 (q + j) (by omega)]
      simp [List.getD]
    have h1 : (q : Int) < (l.length : Int) := by omega
    have h0 : (0 : Int) ≤ (q : Int) := by omega
    have hcap : (l.length : Int) ≤ (cap : Int) := by omega
    have e1 : ((q : Int)).toNat = q := by omega
    clear hq h6 hs
    go_enter Tryz.func20, Tryz.ntmps20
    go_wp2_with fail
    have HB0 : Hid (Below w.heap.size w ((w.alloc (Obj.cells #[Value.slice (some { block := g, off := 0 }) l.length cap, Value.int IntKind.i64 ↑q] 57)).alloc (Obj.cells #[Value.string s] 9))) := ((Below.refl _ w).alloc (Nat.le_refl _) _).alloc (by simp) _
    have HS0 : Hid (((w.alloc (Obj.cells #[Value.slice (some { block := g, off := 0 }) l.length cap, Value.int IntKind.i64 ↑q] 57)).alloc (Obj.cells #[Value.string s] 9)).heap.size = w.heap.size + 2) := by unfold Hid; simp
    have HS1 : Hid (((w.alloc (Obj.cells #[Value.slice (some { block := g, off := 0 }) l.length cap, Value.int IntKind.i64 ↑q] 57)).alloc (Obj.cells #[Value.string s] 9)).cell? ⟨w.heap.size + 1, 0, none⟩ = some (.string s)) := by unfold Hid; simp
    generalize (w.alloc (Obj.cells #[Value.slice (some { block := g, off := 0 }) l.length cap, Value.int IntKind.i64 ↑q] 57)).alloc (Obj.cells #[Value.string s] 9) = W0 at *
    generalize decide (l.length ≤ q) = b1
    generalize decide ((q : Int) < 0) = b2
    go_loopw [4, 6, 23] (fun _ _ s23 wr => ∃ k : Nat, k ≤ 128 ∧ s23 = .int .i64 k ∧ Hid (Below W0.heap.size W0 wr) ∧ Hid (allTo l q s k = true)) (fun _ _ s23 _ => 200 - (intOf s23).toNat)
    case atStart => exact ⟨0, by omega, rfl, Below.refl _ _, rfl⟩
    case round =>
      obtain ⟨k, hk, rfl, HB, HF⟩ := hrel
      have hz := HB.out.size
      have hz0 := HS0.out
      by_cases hlt : k < 128
      · have hlt' : (k : Int) < 128 := by omega
        have hcall := contains_any 27 #[.pointer (some ⟨wr.heap.size, 0, none⟩), .pointer (some ⟨w.heap.size + 1, 0, none⟩)] (enters_of Tryz.func27 (by kernel_rfl) rfl) (fun x => bat x k == bat s k) g q (l.length - q) (cap - q) (l.drop q) (wr.alloc (.cells #[.int .i64 k] 3)) HN.out (by omega)
          (pred_byte k s _ wr.heap.size (w.heap.size + 1) _ (by simp) (by
            refine Lib.cell?_alloc_some _ ?_
            rw [HB.out.cell (by show w.heap.size + 1 < _; omega)]; exact HS1.out) (by simp) (by simp; omega) HL.out hs2) (by simp; omega) (fun j hj => by
            refine Lib.cell?_alloc_some _ ?_
            rw [HB.out.cell (by show g < _; omega), HB0.out.cell (by show g < _; omega)]
            exact HC.out j hj)
        have hb2 : Below W0.heap.size W0 (wr.alloc (.cells #[.int .i64 k] 3)) := HB.out.alloc hz _
        have hz2 := hb2.size
        have HB2 := Lib.hid hb2
        have hstep := allTo_succ l q s k
        have hfal := @allTo_false l q s k 128
        cases hq2 : (l.drop q).any (fun x => bat x k == bat s k) with
        | true =>
          rw [hq2] at hcall
          rw [HF.out, hq2] at hstep
          have HF2 := Lib.hid hstep
          have HCL := Lib.hid hcall
          clear hcall hstep hfal hb2 hz2 hz hz0 hq2
          go_wp2_with (go_at_call 26; refine HCL.out.mono ?_; rintro e w' ⟨rfl, hb'⟩)
          go_roundw
          case rel => exact ⟨k + 1, by omega, by go_num, HB2.out.trans (hb'.mono HB2.out.size), HF2⟩
          case measure => simp [intOf]; omega
        | false =>
          rw [hq2] at hcall
          have HF2 := Lib.hid (hfal hq2 hlt)
          have HCL := Lib.hid hcall
          clear hcall hstep hfal hb2 hz2 hz hz0 hq2
          go_wp2_with (go_at_call 26; refine HCL.out.mono ?_; rintro e w' ⟨rfl, hb'⟩)
          go_ret
          exact RetW.mk (by rw [HV.out, HF2.out]; rfl) (HB0.out.trans ((HB2.out.trans (hb'.mono HB2.out.size)).mono HB0.out.size))
      · obtain rfl : k = 128 := by omega
        have hcall := contains_any 29 #[.pointer (some ⟨w.heap.size + 1, 0, none⟩)] (enters_of Tryz.func29 (by kernel_rfl) rfl) (fun x => x.size == s.size) g q (l.length - q) (cap - q) (l.drop q) wr HN.out (by omega)
          (pred_len s _ (w.heap.size + 1) _ (by
            rw [HB.out.cell (by show w.heap.size + 1 < _; omega)]; exact HS1.out) (by omega) HL.out hs2) (by omega) (fun j hj => by
            rw [HB.out.cell (by show g < _; omega), HB0.out.cell (by show g < _; omega)]
            exact HC.out j hj)
        have HV2 : Hid (mayV l (q : Int) s = (l.drop q).any fun x => x.size == s.size) := by unfold Hid; rw [HV.out, HF.out, Bool.true_and]
        generalize (l.drop q).any (fun x => x.size == s.size) = r at *
        have HCL := Lib.hid hcall
        clear hcall hz hz0
        go_wp2_with (go_at_call 26; refine HCL.out.mono ?_; rintro e w' ⟨rfl, hb'⟩)
        go_ret
        exact RetW.mk (by rw [HV2.out]; rfl) (HB0.out.trans ((HB.out.trans (hb'.mono HB.out.size)).mono HB0.out.size))
end Go.Proofs.YtimhaidiclbnhaaGreat.Con
/- Layer 46: Histories, Check, Crash. -/
set_option linter.unusedSimpArgs false
set_option linter.unusedVariables false
set_option maxRecDepth 100000
namespace Go.Proofs.YtimhaidiclbnhaaGreat.Ver
open Go.ChangeShapes Go.WideShapes Go.ChangeAt Go.RowKit
open Des (Dv De Dn DIn DBlk DAns Vi At RowOf ints DSz)
open Ara (Ar ARow)
open Con (StrRow)

/-- a configuration, the contents at the beginning and a record, in memory -/
structure CIn (W : World) (n : Nat) (scr : List (List Opr)) (sa : Option Addr) (scp : Nat) (a : Option Addr) (c : Nat) (lst : List ByteArray) (v : Value) (xs : List Ev) : Prop where
  sc : ScIn W.heap.size W (.slice sa scr.length scp) scr
  hn : n ≤ 1000
  hs : 1 ≤ scr.length ∧ scr.length ≤ 8
  bl : StrRow 0 a c lst W
  len : lst.length ≤ n
  sz : ∀ s, s ∈ lst → s.size ≤ 128
  op : OpsOK scr
  ev : EvRow W v xs
  xl : xs.length ≤ 1000
  kn : ∀ x, x ∈ xs → knB (begS scr n lst) x = true
section
variable {W W' : World} {n : Nat} {scr : List (List Opr)} {sa : Option Addr} {scp : Nat} {a : Option Addr} {c : Nat} {lst : List ByteArray} {v : Value} {xs : List Ev}
theorem CIn.below (h : CIn W n scr sa scp a c lst v xs) (hb : Below W.heap.size W W') : CIn W' n scr sa scp a c lst v xs := by
  refine { h with sc := ?_, bl := Con.StrRow.below h.bl hb, ev := h.ev.below hb }
  obtain ⟨g, o, c2, h1, h2, h3, h4, h5⟩ := h.sc.below hb
  exact ⟨g, o, c2, h1, Nat.lt_of_lt_of_le h2 hb.size, h3, h4, fun i hi => by
    obtain ⟨u, h6, g2, o3, c3, h7, h8, h9⟩ := h5 i hi
    exact ⟨u, h6, g2, o3, c3, h7, Nat.lt_of_lt_of_le h8 hb.size, h9⟩⟩
theorem CIn.follow (h : CIn W n scr sa scp a c lst v xs) (pa : Option Addr) (pc : Nat) : Calls Tryz.prog 19 #[.agg (cfgC (.slice pa n pc) (.slice sa scr.length scp)).toArray, .slice a lst.length c, v] W (FolP W (begS scr n lst) xs) :=
  follow_any n pa pc scr sa scp scr.length a c lst v xs W h.sc rfl h.hn h.hs h.bl h.len h.sz h.op h.ev h.xl h.kn
end
def HisP (W : World) (n : Nat) (s : St) (xs : List Ev) (e : Ending) (w' : World) : Prop :=
  ∃ (B : Nat) (l : Ly), e = .returned (.tuple #[fx l.H n, .int .i64 0]) ∧ Mm B w' l (runS s xs xs.length).1 ∧ Below W.heap.size W w'
theorem histories_any (n : Nat) (pa : Option Addr) (pc : Nat) (scr : List (List Opr)) (sa : Option Addr) (scp : Nat) (a : Option Addr) (c : Nat) (lst : List ByteArray) (v : Value) (xs : List Ev) (W : World) (h : CIn W n scr sa scp a c lst v xs) :
    Calls Tryz.prog 11 #[.agg (cfgC (.slice pa n pc) (.slice sa scr.length scp)).toArray, .slice a lst.length c, v] W (HisP W n (begS scr n lst) xs) := by
  have HF : Hid (∀ W', Below W.heap.size W W' → Calls Tryz.prog 19 #[.agg (cfgC (.slice pa n pc) (.slice sa scr.length scp)).toArray, .slice a lst.length c, v] W' (FolP W' (begS scr n lst) xs)) := Lib.hid fun W' hb => (h.below hb).follow pa pc
  have HFS : Hid ((runS (begS scr n lst) xs xs.length).1.fs.length = n) := Lib.hid ((run_keep _ xs _).2.trans (begF_len n lst))
  clear h
  generalize begS scr n lst = s0 at *
  have HE := Lib.hid (At.new W (cfgC (.slice pa n pc) (.slice sa scr.length scp)) 44)
  have HBW : Hid (Below W.heap.size W (W.alloc (.cells (cfgC (.slice pa n pc) (.slice sa scr.length scp)).toArray 44))) := Lib.hid ((Below.refl _ _).alloc (Nat.le_refl _) _)
  have hsz44 : (Tryz.prog.info? 44).map (·.size) = some (cfgC (.slice pa n pc) (.slice sa scr.length scp)).length := size44
  generalize cfgC (.slice pa n pc) (.slice sa scr.length scp) = cf at *
  go_enter Tryz.func11, Tryz.ntmps11
  go_upto_region 1 with (fail)
  generalize W.alloc (.cells cf.toArray 44) = W1 at *
  go_wp2_with (with_reducible refine Des.hold_load 44 rfl ?_)
  refine Des.load_ato 0 HE.out.r Tryz.underlying44 rfl hsz44 rfl rfl rfl ?_
  clear hsz44
  go_wp2_with fail
  refine (HF.out _ HBW.out).mono ?_
  rintro e w2 hfp
  obtain ⟨B, l, ov, rfl, hB, hm, hown, hb⟩ := hfp
  have HM := Lib.hid hm
  have HB2 := Lib.hid (HBW.out.trans (hb.mono HBW.out.size))
  have mH : w2.cell? ⟨l.M, 27, none⟩ = some (.slice (some ⟨l.H, 0, none⟩) n n) := by
    have := hm.cH
    rw [HFS.out] at this
    exact this
  clear hm hb hown hB
  go_wp2_with fail
  exact bodyPost_ret (v := .tuple #[fx l.H n, .int .i64 0]) (by simp [results, Tryz.results11, go_sem, fx]) rfl ⟨B, l, rfl, HM.out, HB2.out⟩
def ChkP (W : World) (s : St) (xs : List Ev) (e : Ending) (w' : World) : Prop :=
  ∃ (B : Nat) (ov : Value), e = .returned ov ∧ W.heap.size ≤ B ∧ w'.ownsRow B 70 2 ov (runS s xs xs.length).2.length (fnd (runS s xs xs.length).2) ∧ Below W.heap.size W w'
theorem check_any (n : Nat) (pa : Option Addr) (pc : Nat) (scr : List (List Opr)) (sa : Option Addr) (scp : Nat) (a : Option Addr) (c : Nat) (lst : List ByteArray) (v : Value) (xs : List Ev) (W : World) (h : CIn W n scr sa scp a c lst v xs) :
    Calls Tryz.prog 12 #[.agg (cfgC (.slice pa n pc) (.slice sa scr.length scp)).toArray, .slice a lst.length c, v] W (ChkP W (begS scr n lst) xs) := by
  have HF : Hid (∀ W', Below W.heap.size W W' → Calls Tryz.prog 19 #[.agg (cfgC (.slice pa n pc) (.slice sa scr.length scp)).toArray, .slice a lst.length c, v] W' (FolP W' (begS scr n lst) xs)) := Lib.hid fun W' hb => (h.below hb).follow pa pc
  clear h
  generalize begS scr n lst = s0 at *
  have HE := Lib.hid (At.new W (cfgC (.slice pa n pc) (.slice sa scr.length scp)) 44)
  have HBW : Hid (Below W.heap.size W (W.alloc (.cells (cfgC (.slice pa n pc) (.slice sa scr.length scp)).toArray 44))) := Lib.hid ((Below.refl _ _).alloc (Nat.le_refl _) _)
  have hsz44 : (Tryz.prog.info? 44).map (·.size) = some (cfgC (.slice pa n pc) (.slice sa scr.length scp)).length := size44
  generalize cfgC (.slice pa n pc) (.slice sa scr.length scp) = cf at *
  go_enter Tryz.func12, Tryz.ntmps12
  go_upto_region 1 with (fail)
  generalize W.alloc (.cells cf.toArray 44) = W1 at *
  go_wp2_with (with_reducible refine Des.hold_load 44 rfl ?_)
  refine Des.load_ato 0 HE.out.r Tryz.underlying44 rfl hsz44 rfl rfl rfl ?_
  clear hsz44
  go_wp2_with fail
  refine (HF.out _ HBW.out).mono ?_
  rintro e w2 hfp
  obtain ⟨B, l, ov, rfl, hB, hm, hown, hb⟩ := hfp
  have HOW := Lib.hid hown
  have HB2 := Lib.hid (HBW.out.trans (hb.mono HBW.out.size))
  have hBB : W.heap.size ≤ B := Nat.le_trans HBW.out.size hB
  clear hm hb hown hB
  go_wp2_with fail
  exact bodyPost_ret (v := ov) (by simp [results, Tryz.results12, go_sem]) rfl ⟨B, ov, rfl, hBB, HOW.out, HB2.out⟩
end Go.Proofs.YtimhaidiclbnhaaGreat.Ver
