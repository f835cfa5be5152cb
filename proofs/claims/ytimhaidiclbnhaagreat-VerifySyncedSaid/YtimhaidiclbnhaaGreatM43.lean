/- Layer 46, shared texts of this seat, part 43. -/
import Derived.Test.YtimhaidiclbnhaaGreatM40
import Derived.Test.YtimhaidiclbnhaaGreatM41
import Derived.Test.YtimhaidiclbnhaaGreatM42
import Derived.Test.YtimhaidiclbnhaaGreatM18
import Derived.Test.YtimhaidiclbnhaaGreatM38
/- Layer 46: follow: a record applied to the model. -/
set_option linter.unusedSimpArgs false
set_option linter.unusedVariables false
set_option maxRecDepth 100000
namespace Go.Proofs.YtimhaidiclbnhaaGreat.Ver
open Go.ChangeShapes Go.WideShapes Go.ChangeAt Go.RowKit
open Des (Dv De Dn DIn DBlk DAns Vi At RowOf ints DSz)
open Ara (Ar ARow)
open Con (StrRow)

theorem EvRow.open' {W : World} {v : Value} {xs : List Ev} (h : EvRow W v xs) : ∃ ea ec, v = .slice ea xs.length ec ∧ ∀ i, i < xs.length → ∃ g o, ea = some ⟨g, o, none⟩ ∧ g < W.heap.size ∧ xs.length ≤ ec ∧ ec ≤ maxLen ∧ ∀ j u, (xs.getD i Ev.zero).cells[j]? = some u → W.cell? ⟨g, o + i * 9 + j, none⟩ = some u := by
  rcases h with ⟨h1, h2⟩ | ⟨g, o, c, h1, h2, h3, h4, h5⟩
  · subst h2; exact ⟨none, 0, h1, fun i hi => by cases hi⟩
  · exact ⟨_, c, h1, fun i hi => ⟨g, o, rfl, h2, h3, h4, h5 i hi⟩⟩
theorem find_info : (Tryz.prog.info? 70).map (fun i => (i.zero, i.size, i.bytes)) = some (some (.agg #[.int .i64 0, .int .i64 0]), 2, 16) := by kernel_rfl
/-- what follow answers -/
def FolP (W : World) (s : St) (xs : List Ev) (e : Ending) (w' : World) : Prop :=
  ∃ (B : Nat) (l : Ly) (ov : Value), e = .returned (.tuple #[.pointer (some ⟨l.M, 0, none⟩), ov, .int .i64 0]) ∧ W.heap.size ≤ B ∧ Mm B w' l (runS s xs xs.length).1 ∧ w'.ownsRow B 70 2 ov (runS s xs xs.length).2.length (fnd (runS s xs xs.length).2) ∧ Below W.heap.size W w'
/-- the blocks of the findings so far -/
def exB (v : Value) : List Nat := v.ownBlock.toList
set_option maxHeartbeats 40000000 in
theorem follow_any (n : Nat) (pa : Option Addr) (pc : Nat) (scr : List (List Opr)) (sa : Option Addr) (scp ns : Nat) (a : Option Addr) (c : Nat) (lst : List ByteArray) (v : Value) (xs : List Ev) (W : World)
    (hsc : ScIn W.heap.size W (.slice sa ns scp) scr) (hns : scr.length = ns) (hn : n ≤ 1000) (hns8 : 1 ≤ ns ∧ ns ≤ 8) (hl : StrRow 0 a c lst W) (hlen : lst.length ≤ n) (hsz : ∀ s, s ∈ lst → s.size ≤ 128) (ho : OpsOK scr)
    (hv : EvRow W v xs) (hx : xs.length ≤ 1000) (hk : ∀ x, x ∈ xs → knB (begS scr n lst) x = true) :
    Calls Tryz.prog 19 #[.agg (cfgC (.slice pa n pc) (.slice sa ns scp)).toArray, .slice a lst.length c, v] W (FolP W (begS scr n lst) xs) := by
  obtain ⟨ea, ec, rfl, hcell⟩ := hv.open'
  have hok : Ok 0 (begS scr n lst) := ok_beg scr n lst hn (by omega) hsz ho
  have HBG : Hid (∀ W', Below W.heap.size W W' → Calls Tryz.prog 23 #[.agg (cfgC (.slice pa n pc) (.slice sa ns scp)).toArray, .slice a lst.length c] W' (BegP W' (.slice pa n pc) (.slice sa ns scp) scr n lst)) := Lib.hid fun W' hb => by
    refine begin_any n pa pc scr sa scp ns a c lst W' ?_ hns hn hns8 (Con.StrRow.below hl hb) hlen hsz
    obtain ⟨g, o, c2, h1, h2, h3, h4, h5⟩ := hsc.below hb
    exact ⟨g, o, c2, h1, Nat.lt_of_lt_of_le h2 hb.size, h3, h4, fun i hi => by
      obtain ⟨u, h6, g2, o3, c3, h7, h8, h9⟩ := h5 i hi
      exact ⟨u, h6, g2, o3, c3, h7, Nat.lt_of_lt_of_le h8 hb.size, h9⟩⟩
  have HKN : Hid (∀ (B : Nat) (l : Ly) x W', x ∈ xs → Mm B W' l (begS scr n lst) → Calls Tryz.prog 24 #[.pointer (some ⟨l.M, 0, none⟩), .agg #[.int .i64 x.tm, .int .i64 x.pr, .int .i64 x.ix, .int .i64 x.fi, .int .i64 x.at', .int .i64 x.bg, .int .i64 x.er, .int .i64 x.n, .string x.dat]] W' fun e w' => e = .returned (.bool true) ∧ Below W'.heap.size W' w') := Lib.hid fun B l x W' hxm hm => by
    have h1 := known_any B l (begS scr n lst) x W' hm hok.nf hok.ns
    rw [hk x hxm] at h1
    exact h1
  have HTK : Hid (∀ (B : Nat) (l : Ly) (M k : Nat) W', l.M = M → k < xs.length → Mm B W' l (runS (begS scr n lst) xs k).1 → Calls Tryz.prog 25 #[.pointer (some ⟨M, 0, none⟩), .int .i64 (k : Int), .agg #[.int .i64 (xs.getD k Ev.zero).tm, .int .i64 (xs.getD k Ev.zero).pr, .int .i64 (xs.getD k Ev.zero).ix, .int .i64 (xs.getD k Ev.zero).fi, .int .i64 (xs.getD k Ev.zero).at', .int .i64 (xs.getD k Ev.zero).bg, .int .i64 (xs.getD k Ev.zero).er, .int .i64 (xs.getD k Ev.zero).n, .string (xs.getD k Ev.zero).dat]] W' (TakeP B W' l (runS (begS scr n lst) xs k).1 (k : Int) (xs.getD k Ev.zero))) := Lib.hid fun B l M k W' hM hkx hm => by
    subst hM
    have hmem : xs.getD k Ev.zero ∈ xs := by rw [show xs.getD k Ev.zero = xs[k] from by simp [List.getD, hkx]]; exact List.getElem_mem hkx
    refine take_any k B l _ (k : Int) _ W' hm (run_ok hok xs k) (by omega) ?_
    rw [kn_keep (run_keep _ xs k)]
    exact hk _ hmem
  have HMEM : Hid (∀ k, k < xs.length → xs.getD k Ev.zero ∈ xs) := Lib.hid fun k hkx => by rw [show xs.getD k Ev.zero = xs[k] from by simp [List.getD, hkx]]; exact List.getElem_mem hkx
  have HRL : Hid (∀ k, (runS (begS scr n lst) xs k).2.length ≤ k) := Lib.hid fun k => run_len _ xs k
  have HRS : Hid (∀ k, runS (begS scr n lst) xs (k + 1) = ((takeS (runS (begS scr n lst) xs k).1 (k : Int) (xs.getD k Ev.zero)).2, (runS (begS scr n lst) xs k).2 ++ if (takeS (runS (begS scr n lst) xs k).1 (k : Int) (xs.getD k Ev.zero)).1 = 0 then [] else [((k : Int), (takeS (runS (begS scr n lst) xs k).1 (k : Int) (xs.getD k Ev.zero)).1)])) := Lib.hid fun k => rfl
  have HCELL := Lib.hid hcell
  clear hsc hl hsz ho hv hk hok hcell hns
  generalize hs0 : begS scr n lst = s0 at *
  have HS0 := Lib.hid hs0
  clear hs0
  have HE := Lib.hid (At.new W (cfgC (.slice pa n pc) (.slice sa ns scp)) 44)
  have HBW : Hid (Below W.heap.size W (W.alloc (.cells (cfgC (.slice pa n pc) (.slice sa ns scp)).toArray 44))) := Lib.hid ((Below.refl _ _).alloc (Nat.le_refl _) _)
  obtain ⟨cf, hcf⟩ : ∃ cf, cf = cfgC (.slice pa n pc) (.slice sa ns scp) := ⟨_, rfl⟩
  have HCF := Lib.hid hcf
  rw [← hcf] at HE HBW HBG ⊢
  clear hcf
  have hxI : (xs.length : Int) ≤ 1000 := by omega
  go_enter Tryz.func19, Tryz.ntmps19
  go_upto_region 1 with (fail)
  generalize W.alloc (.cells cf.toArray 44) = W1 at *
  have hsz44 : (Tryz.prog.info? 44).map (·.size) = some cf.length := by rw [HCF.out]; exact size44
  go_wp2_with (with_reducible refine Des.hold_load 44 rfl ?_)
  refine Des.load_ato 0 HE.out.r Tryz.underlying44 rfl hsz44 rfl rfl rfl ?_
  clear hsz44
  go_wp2_with fail
  refine (HBG.out _ HBW.out).mono ?_
  rintro e w2 hbp
  obtain ⟨l, rfl, hpl, hscl, hm2, hb2⟩ := hbp
  have HM2 : Hid (Mm W1.heap.size w2 l s0) := Lib.hid (by rw [← HS0.out]; exact hm2)
  have HB2 : Hid (Below W.heap.size W w2) := Lib.hid (HBW.out.trans (hb2.mono HBW.out.size))
  have hWB : W.heap.size ≤ W1.heap.size := HBW.out.size
  clear hm2 hb2 HBG HE hpl hscl
  generalize W1.heap.size = B at *
  go_upto_region 4 with (fail)
  go_wp2_with fail
  go_loopw [28] (fun v28 wr => ∃ k : Nat, k ≤ xs.length ∧ v28 = .int .i64 k ∧ Hid (Mm B wr l s0) ∧ Hid (Below W.heap.size W wr)) (fun v28 _ => xs.length - (intOf v28).toNat)
  case atStart => exact ⟨0, Nat.zero_le _, rfl, HM2, HB2⟩
  case round =>
    obtain ⟨k, hk, rfl, HMr, HBr⟩ := hrel
    clear HM2 HB2
    by_cases hlt : k < xs.length
    · have hltI : (k : Int) < (xs.length : Int) := by omega
      obtain ⟨g, o, rfl, hg, hec, hec2, hcs⟩ := HCELL.out k hlt
      have hecI : (xs.length : Int) ≤ (ec : Int) := by omega
      have hm := HMEM.out k hlt
      have HC : Hid (∀ j u, (xs.getD k Ev.zero).cells[j]? = some u → wr.cell? ⟨g, o + k * 9 + j, none⟩ = some u) := Lib.hid fun j u hu => (HBr.out.cell (p := ⟨g, o + k * 9 + j, none⟩) hg).trans (hcs j u hu)
      clear hcs
      generalize xs.getD k Ev.zero = x at *
      obtain ⟨e0, e1, e2, e3, e4, e5, e6, e7, e8⟩ : wr.cell? ⟨g, o + k * 9, none⟩ = some (.int .i64 x.tm) ∧ wr.cell? ⟨g, o + k * 9 + 1, none⟩ = some (.int .i64 x.pr) ∧ wr.cell? ⟨g, o + k * 9 + 2, none⟩ = some (.int .i64 x.ix) ∧ wr.cell? ⟨g, o + k * 9 + 3, none⟩ = some (.int .i64 x.fi) ∧ wr.cell? ⟨g, o + k * 9 + 4, none⟩ = some (.int .i64 x.at') ∧ wr.cell? ⟨g, o + k * 9 + 5, none⟩ = some (.int .i64 x.bg) ∧ wr.cell? ⟨g, o + k * 9 + 6, none⟩ = some (.int .i64 x.er) ∧ wr.cell? ⟨g, o + k * 9 + 7, none⟩ = some (.int .i64 x.n) ∧ wr.cell? ⟨g, o + k * 9 + 8, none⟩ = some (.string x.dat) := ⟨HC.out 0 _ rfl, HC.out 1 _ rfl, HC.out 2 _ rfl, HC.out 3 _ rfl, HC.out 4 _ rfl, HC.out 5 _ rfl, HC.out 6 _ rfl, HC.out 7 _ rfl, HC.out 8 _ rfl⟩
      go_upto_region 7 with (fail)
      clear e0 e1 e2 e3 e4 e5 e6 e7 e8
      go_wp2_with fail
      refine (HKN.out B l x _ hm (HMr.out.below ((Below.refl _ _).alloc (Nat.le_refl _) _))).mono ?_
      rintro e w4 ⟨rfl, hb4⟩
      have HM4 := Lib.hid ((HMr.out.below ((Below.refl _ _).alloc (Nat.le_refl _) _)).below hb4)
      have HB4 := Lib.hid ((HBr.out.alloc HBr.out.size _).trans (hb4.mono (by rw [Des.alloc_size]; have := HBr.out.size; omega)))
      clear hb4
      go_wp2_with fail
      go_roundw
      case rel => exact ⟨k + 1, by omega, by go_num, HM4, HB4⟩
      case measure => simp [intOf]; omega
    · have hltI : ¬ (k : Int) < (xs.length : Int) := by omega
      clear HKN hk
      go_upto_region 11 with (fail)
      go_wp2_with fail
      have HM0 : Hid (Mm B wr { l with ex := exB (.slice none 0 0) } s0) := Lib.hid (HMr.out.grow (row := none) ⟨rfl, rfl, rfl, Nat.le_refl _, fun _ _ _ => rfl⟩ (fun g h => by cases h) [] (fun b hb => by cases hb))
      clear HMr
      go_loopw [13, 39] (fun v13 v39 wr => ∃ (ov : Value) (k : Nat) (l2 : Ly), ov = v13 ∧ k ≤ xs.length ∧ v39 = .int .i64 k ∧ Hid (l2.M = l.M ∧ l2.ex = exB ov ∧ ∀ g, g ∈ l2.ex → g ∉ vs l2) ∧ Hid (Mm B wr l2 (runS s0 xs k).1) ∧ Hid (wr.ownsRow B 70 2 ov (runS s0 xs k).2.length (fnd (runS s0 xs k).2)) ∧ Hid (Below W.heap.size W wr)) (fun _ v39 _ => xs.length - (intOf v39).toNat)
      case atStart => exact ⟨_, 0, { l with ex := exB (.slice none 0 0) }, rfl, Nat.zero_le _, rfl, ⟨rfl, rfl, fun g h => by cases h⟩, HM0, World.ownsRow_nil _ _ 70 2, HBr⟩
      case round =>
        skip
        clear HM0 HBr hltI
        obtain ⟨ov, k, l2, rfl, hk, rfl, HL2, HMr, HOW, HBr⟩ := hrel
        by_cases hlt : k < xs.length
        · have hltI : (k : Int) < (xs.length : Int) := by omega
          obtain ⟨g, o, rfl, hg, hec, hec2, hcs⟩ := HCELL.out k hlt
          have hecI : (xs.length : Int) ≤ (ec : Int) := by omega
          have HC : Hid (∀ j u, (xs.getD k Ev.zero).cells[j]? = some u → wr.cell? ⟨g, o + k * 9 + j, none⟩ = some u) := Lib.hid fun j u hu => (HBr.out.cell (p := ⟨g, o + k * 9 + j, none⟩) hg).trans (hcs j u hu)
          have HT := Lib.hid (HTK.out B l2 l.M k _ HL2.out.1 hlt (HMr.out.below ((Below.refl wr.heap.size wr).alloc (Nat.le_refl _) (Obj.cells (xs.getD k Ev.zero).cells.toArray 64))))
          have HRK := Lib.hid (HRS.out k)
          have hrl := HRL.out k
          clear hcs
          generalize hTV : takeS (runS s0 xs k).1 (k : Int) (xs.getD k Ev.zero) = T at HRK
          have HTV := Lib.hid hTV
          clear hTV
          obtain ⟨tk, s'⟩ := T
          generalize hx0 : xs.getD k Ev.zero = x at *
          have HX0 := Lib.hid hx0
          clear hx0
          obtain ⟨e0, e1, e2, e3, e4, e5, e6, e7, e8⟩ : wr.cell? ⟨g, o + k * 9, none⟩ = some (.int .i64 x.tm) ∧ wr.cell? ⟨g, o + k * 9 + 1, none⟩ = some (.int .i64 x.pr) ∧ wr.cell? ⟨g, o + k * 9 + 2, none⟩ = some (.int .i64 x.ix) ∧ wr.cell? ⟨g, o + k * 9 + 3, none⟩ = some (.int .i64 x.fi) ∧ wr.cell? ⟨g, o + k * 9 + 4, none⟩ = some (.int .i64 x.at') ∧ wr.cell? ⟨g, o + k * 9 + 5, none⟩ = some (.int .i64 x.bg) ∧ wr.cell? ⟨g, o + k * 9 + 6, none⟩ = some (.int .i64 x.er) ∧ wr.cell? ⟨g, o + k * 9 + 7, none⟩ = some (.int .i64 x.n) ∧ wr.cell? ⟨g, o + k * 9 + 8, none⟩ = some (.string x.dat) := ⟨HC.out 0 _ rfl, HC.out 1 _ rfl, HC.out 2 _ rfl, HC.out 3 _ rfl, HC.out 4 _ rfl, HC.out 5 _ rfl, HC.out 6 _ rfl, HC.out 7 _ rfl, HC.out 8 _ rfl⟩
          unfold Ev.cells at HT
          have HE2 := Lib.hid ((HBr.out.alloc HBr.out.size (Obj.cells #[.int .i64 x.tm, .int .i64 x.pr, .int .i64 x.ix, .int .i64 x.fi, .int .i64 x.at', .int .i64 x.bg, .int .i64 x.er, .int .i64 x.n, .string x.dat] 64)))
          have HOW2 := Lib.hid (Des.ownsRow_below HOW.out ((Below.refl wr.heap.size wr).alloc (Nat.le_refl _) (Obj.cells #[.int .i64 x.tm, .int .i64 x.pr, .int .i64 x.ix, .int .i64 x.fi, .int .i64 x.at', .int .i64 x.bg, .int .i64 x.er, .int .i64 x.n, .string x.dat] 64)))
          have HMx := Lib.hid (HMr.out.below ((Below.refl wr.heap.size wr).alloc (Nat.le_refl _) (Obj.cells #[.int .i64 x.tm, .int .i64 x.pr, .int .i64 x.ix, .int .i64 x.fi, .int .i64 x.at', .int .i64 x.bg, .int .i64 x.er, .int .i64 x.n, .string x.dat] 64)))
          go_upto_region 14 with (fail)
          clear e0 e1 e2 e3 e4 e5 e6 e7 e8
          go_wp2_with fail
          refine HT.out.mono ?_
          rintro e w5 htp
          obtain ⟨l3, rfl, htk⟩ := htp
          rw [HTV.out] at htk
          have hxl : ∀ g, g ∈ l3.ex → g ∉ vs l3 := fun g hg3 hm => by
            have h1 : g ∈ l2.ex := by rw [← htk.ex]; exact hg3
            rcases htk.n g hm with h2 | h2
            · exact HL2.out.2.2 g h1 h2
            · have := (HMx.out.hx g h1).1; omega
          have HL3 : Hid (l3.M = l.M ∧ l3.ex = exB ov ∧ ∀ g, g ∈ l3.ex → g ∉ vs l3) := Lib.hid ⟨htk.M.trans HL2.out.1, htk.ex.trans HL2.out.2.1, hxl⟩
          have HM5 : Hid (Mm B w5 l3 s') := Lib.hid htk.m
          have HOW5 : Hid (w5.ownsRow B 70 2 ov (runS s0 xs k).2.length (fnd (runS s0 xs k).2)) := Lib.hid (own_keepB HOW2.out fun q hq => htk.v.block q (HL2.out.2.2 q (by rw [HL2.out.2.1]; unfold exB; rw [hq]; simp)) (HOW2.out.lt q hq).2)
          have HB5 : Hid (Below W.heap.size W w5) := Lib.hid (HE2.out.trans (htk.v.below HE2.out.size (fun b hb => Nat.le_trans hWB (HMx.out.lo b hb))))
          rw [HTV.out]
          clear htk hxl HT HE2 HOW2 HMx HMr HOW HBr HL2
          skip
          by_cases hz : tk = 0
          · subst hz
            go_wp2_with fail
            go_roundw
            case rel => exact ⟨ov, k + 1, l3, rfl, by omega, by go_num, HL3, by rw [HRK.out]; exact HM5, by rw [HRK.out]; simpa using HOW5, HB5⟩
            case measure => simp [intOf]; omega
          · have hz1 : (tk != 0) = true := by simpa using hz
            have hz2 : (tk == 0) = false := by simpa using hz
            obtain ⟨i0, hi, hz0, hzs, hzb⟩ := info_parts find_info
            have HI := Lib.hid hi
            have HZ := Lib.hid hz0
            have HZS := Lib.hid hzs
            have HZB := Lib.hid hzb
            have HOW6 := Lib.hid (Des.ownsRow_below HOW5.out ((Below.refl w5.heap.size w5).alloc (Nat.le_refl _) (Obj.cells #[.int .i64 (k : Int), .int .i64 tk] 70)))
            have HM6 := Lib.hid (HM5.out.below ((Below.refl w5.heap.size w5).alloc (Nat.le_refl _) (Obj.cells #[.int .i64 (k : Int), .int .i64 tk] 70)))
            have HB6 := Lib.hid (HB5.out.alloc HB5.out.size (Obj.cells #[.int .i64 (k : Int), .int .i64 tk] 70))
            have HN6 : Hid (∀ j u, ([.int .i64 (k : Int), .int .i64 tk] : List Value)[j]? = some u → (w5.alloc (Obj.cells #[.int .i64 (k : Int), .int .i64 tk] 70)).cell? ((⟨w5.heap.size, 0, none⟩ : Addr).add j) = some u) := Lib.hid (World.news_of_block (Go.heap_alloc_new w5 _))
            have hs6 : (w5.alloc (Obj.cells #[.int .i64 (k : Int), .int .i64 tk] 70)).heap.size = w5.heap.size + 1 := Des.alloc_size _ _
            have HS6 := Lib.hid hs6
            have hB6 : B ≤ w5.heap.size + 1 := by have := HM5.out.hB; omega
            generalize hfl : (runS s0 xs k).2 = fl at *
            clear hfl hi hz0 hzs hzb hs6
            go_wp2_with (at_builtin; refine wpList_append_lies _ rfl _ _ _ rfl B 70 i0 (.agg #[.int .i64 0, .int .i64 0]) 2 16 Tryz.underlying54 HI.out HZ.out HZS.out HZB.out rfl (by omega) ov fl.length (fnd fl) rfl HOW6.out ⟨w5.heap.size, 0, none⟩ 1 1 [.int .i64 (k : Int), .int .i64 tk] rfl rfl HN6.out (by simp [Value.oneCell']) (by omega) (by unfold maxLen; omega) (by omega) (by rw [HS6.out]; exact hB6) (w5.heap.size + 1) HS6.out ?_; intro gn cap w7 hown hgrow hat hlt7; have HOW7 := Lib.hid hown; have HGR := Lib.hid hgrow; have HAT := Lib.hid hat; have HLT := Lib.hid hlt7; clear hown hgrow hat hlt7)
            have hrow : ∀ q, ov.ownBlock = some q → q ∈ l3.ex ∧ q ∉ vs l3 := fun q hq => by
              have h1 : q ∈ l3.ex := by rw [HL3.out.2.1]; unfold exB; rw [hq]; simp
              exact ⟨h1, HL3.out.2.2 q h1⟩
            have hgn : (gn ∈ l3.ex ∨ w5.heap.size + 1 ≤ gn) ∧ gn ∉ vs l3 := by
              rcases HAT.out with h1 | h1
              · exact ⟨Or.inl (hrow gn h1).1, (hrow gn h1).2⟩
              · exact ⟨Or.inr (by omega), fun hm => by have := HM5.out.hi gn hm; omega⟩
            have HM7 : Hid (Mm B w7 { l3 with ex := [gn] } s') := Lib.hid (HM6.out.grow HGR.out hrow [gn] (fun b hb => by
              simp at hb; subst hb
              exact ⟨hgn.1.imp id (fun h => by rw [HS6.out]; exact h), HLT.out⟩))
            have HB7 : Hid (Below W.heap.size W w7) := Lib.hid (HB6.out.grown HGR.out HB6.out.size (fun q hq => Nat.le_trans hWB (HOW5.out.lt q hq).1))
            have HL7 : Hid (({ l3 with ex := [gn] } : Ly).M = l.M ∧ ({ l3 with ex := [gn] } : Ly).ex = exB (.slice (some ⟨gn, 0, none⟩) (fl.length + 1) cap) ∧ ∀ g, g ∈ ({ l3 with ex := [gn] } : Ly).ex → g ∉ vs { l3 with ex := [gn] }) := Lib.hid ⟨HL3.out.1, rfl, fun g hg => by simp at hg; subst hg; exact hgn.2⟩
            have HOW8 : Hid (w7.ownsRow B 70 2 (.slice (some ⟨gn, 0, none⟩) (fl.length + 1) cap) (fl ++ [((k : Int), tk)]).length (fnd (fl ++ [((k : Int), tk)]))) := Lib.hid (by rw [fnd_snoc, List.length_append, List.length_singleton]; exact HOW7.out)
            clear hrow hgn
            go_wp2_with fail
            go_roundw
            case rel => exact ⟨_, k + 1, { l3 with ex := [gn] }, rfl, by omega, by go_num, HL7, by rw [HRK.out]; exact HM7, by rw [HRK.out, if_neg hz]; exact HOW8, HB7⟩
            case measure => simp [intOf]; omega
        · have hkn : k = xs.length := by omega
          subst hkn
          go_wp2_with fail
          exact bodyPost_ret (v := .tuple #[.pointer (some ⟨l.M, 0, none⟩), ov, .int .i64 0]) (by simp [results, Tryz.results19, go_sem]) rfl ⟨B, l2, ov, by rw [HL2.out.1], hWB, HMr.out, HOW.out, HBr.out⟩
end Go.Proofs.YtimhaidiclbnhaaGreat.Ver
/- Which contents a history permits: plain. -/
set_option linter.unusedSimpArgs false
set_option linter.unusedVariables false
set_option maxRecDepth 100000
namespace Go.Proofs.YtimhaidiclbnhaaGreat.Con
open Go.ChangeShapes Go.WideShapes Go.ChangeAt Go.RowKit

/-- whether all bytes below k are found -/
def allTo (l : List ByteArray) (q : Nat) (s : ByteArray) (k : Nat) : Bool := (List.range k).all fun i => (l.drop q).any fun x => bat x i == bat s i
theorem allTo_succ (l : List ByteArray) (q : Nat) (s : ByteArray) (k : Nat) : allTo l q s (k + 1) = (allTo l q s k && (l.drop q).any fun x => bat x k == bat s k) := by
  unfold allTo; rw [List.range_succ, List.all_append]; simp
/-- whether a history permits a content -/
def mayV (l : List ByteArray) (q : Int) (s : ByteArray) : Bool := decide (0 ≤ q ∧ q < l.length) && (allTo l q.toNat s 128 && (l.drop q.toNat).any fun x => x.size == s.size)
theorem mayV_out {l : List ByteArray} {q : Int} {s : ByteArray} (h : q < 0 ∨ (l.length : Int) ≤ q) : mayV l q s = false := by
  unfold mayV; rw [decide_eq_false (by omega)]; rfl
theorem mayV_in {l : List ByteArray} {q : Nat} {s : ByteArray} (h : q < l.length) : mayV l (q : Int) s = (allTo l q s 128 && (l.drop q).any fun x => x.size == s.size) := by
  unfold mayV; rw [decide_eq_true (by omega), Bool.true_and, show ((q : Int)).toNat = q from by omega]
theorem allTo_false {l : List ByteArray} {q : Nat} {s : ByteArray} {k n : Nat} (h : ((l.drop q).any fun x => bat x k == bat s k) = false) (hk : k < n) : allTo l q s n = false := by
  unfold allTo
  rw [List.all_eq_false]
  exact ⟨k, List.mem_range.2 hk, by rw [h]; simp⟩
end Go.Proofs.YtimhaidiclbnhaaGreat.Con
