/- Layer 46, shared texts of this seat, part 45. -/
import Derived.Test.YtimhaidiclbnhaaGreatM44
/- Layer 46: Crash. -/
set_option linter.unusedSimpArgs false
set_option linter.unusedVariables false
set_option maxRecDepth 100000
namespace Go.Proofs.YtimhaidiclbnhaaGreat.Ver
open Go.ChangeShapes Go.WideShapes Go.ChangeAt Go.RowKit
open Des (Dv De Dn DIn DBlk DAns Vi At RowOf ints DSz)
open Ara (Ar ARow)
open Con (StrRow)

/-- no state is too long -/
def HZ (s : St) : Prop := ∀ i x, x ∈ (s.h.getD i ([], 0)).1 → x.size ≤ 1000
theorem hz_ch {s : St} (h : HZ s) (f : Nat) {d : ByteArray} (hd : d.size ≤ 1000) : HZ (chS s f d) := by
  intro i x hx
  have hx : x ∈ ((s.h.set f ((s.h.getD f ([], 0)).1 ++ [d], (s.h.getD f ([], 0)).2)).getD i ([], 0)).1 := hx
  rw [getD_set0] at hx
  split at hx
  · simp only [List.mem_append, List.mem_singleton] at hx
    rcases hx with h1 | h1
    · exact h f x h1
    · rw [h1]; exact hd
  · exact h i x hx
theorem hz_sy {s : St} (h : HZ s) (f : Nat) (y : Ev) : HZ (syS s f y) := by
  unfold syS
  split
  · intro i x hx
    have hx : x ∈ ((s.h.set f _).getD i ([], 0)).1 := hx
    rw [getD_set0] at hx
    split at hx
    · exact h f x hx
    · exact h i x hx
  · exact h
theorem hz_plan {s : St} (h : HZ s) (hs : ∀ y, y ∈ s.fs → y.size ≤ 1000) (p : Nat) (o : Opr) (x : Ev) : HZ (planR s p o x).2 := by
  have hz := fun f => getD_mem0 (i := f) hs
  unfold planR
  split
  · unfold openedR; split; exact h; split <;> exact h
  · unfold closedR; split <;> exact h
  · unfold readR; split; exact h; split <;> exact h
  · unfold writeR
    generalize (if andV (Des.lookV s.d p o.fd).fl 4 ≠ 0 ∧ ¬ o.dat.size = 0 then ((s.fs.getD (Des.lookV s.d p o.fd).fi.toNat ⟨#[]⟩).size : Int) else (Des.lookV s.d p o.fd).f) = q
    split; exact h; split; exact h; split; exact h
    exact hz_ch (s := { s with d := _ }) h _ (write_size (hz _))
  · unfold seekR; split; exact h; split <;> exact h
  · unfold truncateR; split; exact h; split; exact h; exact hz_ch h _ (trunc_size (hz _))
  · unfold punchR; split; exact h; split; exact h; exact hz_ch h _ (punch_size (hz _))
  · unfold syncR
    generalize (if (Des.lookV s.d p o.fd).cu < s.fa.getD (Des.lookV s.d p o.fd).fi.toNat 0 then s.la.getD (Des.lookV s.d p o.fd).fi.toNat 0 else 0) = q
    split; exact h
    refine hz_sy (?_ : HZ _) _ _
    exact h
  · unfold mappedR; split; exact h; split; exact h; split; exact h; split; exact h; split <;> exact h
  · unfold unmapR; split <;> exact h
  · unfold loadR; split; exact h; split <;> exact h
  · unfold storeR; split; exact h; split; exact h; split; exact h; split; exact h; exact hz_ch h _ (write_size (hz _))
  · unfold dupR; split <;> exact h
  · exact h
theorem hz_take {K : Nat} {s : St} (h : HZ s) (ok : Ok K s) (i : Int) (x : Ev) : HZ (takeS s i x).2 := by
  have e : (ordS (stS s) x).h = s.h := by unfold ordS; split <;> rfl
  have h1 : HZ (ordS (stS s) x) := fun i y hy => h i y (by rw [e] at hy; exact hy)
  unfold takeS
  split
  · exact h1
  · show HZ (if _ then _ else _)
    split
    · exact hz_plan h1 (ok_ord x ok).sz _ _ _
    · exact h1
theorem hz_run {s : St} (h : HZ s) (ok : Ok 0 s) (xs : List Ev) (k : Nat) : HZ (runS s xs k).1 := by
  induction k with
  | zero => exact h
  | succ k ih => exact hz_take ih (run_ok ok xs k) _ _
theorem hz_beg (scr : List (List Opr)) (n : Nat) (lst : List ByteArray) (hsz : ∀ s, s ∈ lst → s.size ≤ 128) : HZ (begS scr n lst) := by
  intro i x hx
  have hx : x ∈ (((List.range n).map fun i => if i < n then ([(begF n lst).getD i ⟨#[]⟩], (0 : Int)) else ([], 0)).getD i ([], 0)).1 := hx
  by_cases hi : i < n
  · have e : (((List.range n).map fun i => if i < n then ([(begF n lst).getD i ⟨#[]⟩], (0 : Int)) else ([], 0)).getD i ([], 0)) = ([(begF n lst).getD i ⟨#[]⟩], 0) := by simp [List.getD, hi]
    rw [e] at hx
    simp only [List.mem_singleton] at hx
    rw [hx, begF_get n lst i hi]
    exact getD_mem0 fun y hy => Nat.le_trans (hsz y hy) (by omega)
  · have e : (((List.range n).map fun i => if i < n then ([(begF n lst).getD i ⟨#[]⟩], (0 : Int)) else ([], 0)).getD i ([], 0)) = ([], 0) := by simp [List.getD, hi]
    rw [e] at hx; cases hx
def crF (h : List (List ByteArray × Int)) (ends : List ByteArray) : Nat → List (Int × Int)
  | 0 => []
  | k + 1 => crF h ends k ++ if Con.mayV (h.getD k ([], 0)).1 (h.getD k ([], 0)).2 (ends.getD k ⟨#[]⟩) = true then [] else [(-1, 5)]
theorem crF_len (h : List (List ByteArray × Int)) (ends : List ByteArray) (k : Nat) : (crF h ends k).length ≤ k := by
  induction k with
  | zero => exact Nat.le_refl _
  | succ k ih =>
    show (crF h ends k ++ _).length ≤ k + 1
    rw [List.length_append]
    split <;> simp <;> omega
/-- what a crash shows -/
def crashF (n : Nat) (s : St) (xs : List Ev) (ends : List ByteArray) : List (Int × Int) := if (runS s xs xs.length).2.length = 0 then crF (runS s xs xs.length).1.h ends n else (runS s xs xs.length).2
def CraP (W : World) (fl : List (Int × Int)) (e : Ending) (w' : World) : Prop := ∃ (B : Nat) (ov : Value), e = .returned ov ∧ W.heap.size ≤ B ∧ w'.ownsRow B 70 2 ov fl.length (fnd fl) ∧ Below W.heap.size W w'
set_option maxHeartbeats 40000000 in
theorem crash_any (n : Nat) (pa : Option Addr) (pc : Nat) (scr : List (List Opr)) (sa : Option Addr) (scp : Nat) (a : Option Addr) (c : Nat) (lst : List ByteArray) (a2 : Option Addr) (c2 : Nat) (ends : List ByteArray) (v : Value) (xs : List Ev) (W : World) (h : CIn W n scr sa scp a c lst v xs) (h2 : StrRow 0 a2 c2 ends W) (hel : ends.length ≤ 1000) (hes : ∀ s, s ∈ ends → s.size ≤ 10000) :
    Calls Tryz.prog 13 #[.agg (cfgC (.slice pa n pc) (.slice sa scr.length scp)).toArray, .slice a lst.length c, .slice a2 ends.length c2, v] W (CraP W (crashF n (begS scr n lst) xs ends)) := by
  have HC : Hid (∀ W', Below W.heap.size W W' → Calls Tryz.prog 12 #[.agg (cfgC (.slice pa n pc) (.slice sa scr.length scp)).toArray, .slice a lst.length c, v] W' (ChkP W' (begS scr n lst) xs)) := Lib.hid fun W' hb => check_any n pa pc scr sa scp a c lst v xs W' (h.below hb)
  have HF : Hid (∀ W', Below W.heap.size W W' → Calls Tryz.prog 19 #[.agg (cfgC (.slice pa n pc) (.slice sa scr.length scp)).toArray, .slice a lst.length c, v] W' (FolP W' (begS scr n lst) xs)) := Lib.hid fun W' hb => (h.below hb).follow pa pc
  have hok := ok_beg scr n lst h.hn h.hs h.sz h.op
  have HFS : Hid ((runS (begS scr n lst) xs xs.length).1.fs.length = n) := Lib.hid ((run_keep _ xs _).2.trans (begF_len n lst))
  have HOK := Lib.hid (run_ok hok xs xs.length)
  have HZZ := Lib.hid (hz_run (hz_beg scr n lst h.sz) hok xs xs.length)
  have hn := h.hn
  have hxl := h.xl
  have HST := Lib.hid h2
  have HES : Hid (∀ k, (ends.getD k ⟨#[]⟩).size ≤ 10000) := Lib.hid fun k => by
    by_cases hk : k < ends.length
    · rw [show ends.getD k ⟨#[]⟩ = ends[k] from by simp [List.getD, hk]]; exact hes _ (List.getElem_mem hk)
    · rw [show ends.getD k ⟨#[]⟩ = ⟨#[]⟩ from by simp [List.getD, hk]]; exact Nat.zero_le _
  have HRL : Hid ((runS (begS scr n lst) xs xs.length).2.length ≤ xs.length) := Lib.hid (run_len _ xs _)
  have HP : Hid (∀ fl, crashF n (begS scr n lst) xs ends = fl → ∀ e w', CraP W fl e w' → CraP W (crashF n (begS scr n lst) xs ends) e w') := Lib.hid fun fl hf e w' h => hf ▸ h
  have HCF : Hid (crashF n (begS scr n lst) xs ends = if (runS (begS scr n lst) xs xs.length).2.length = 0 then crF (runS (begS scr n lst) xs xs.length).1.h ends n else (runS (begS scr n lst) xs xs.length).2) := Lib.hid rfl
  clear h h2 hok hes
  generalize crashF n (begS scr n lst) xs ends = CF at *
  generalize begS scr n lst = s0 at *
  have HE := Lib.hid (At.new W (cfgC (.slice pa n pc) (.slice sa scr.length scp)) 44)
  have HBW : Hid (Below W.heap.size W (W.alloc (.cells (cfgC (.slice pa n pc) (.slice sa scr.length scp)).toArray 44))) := Lib.hid ((Below.refl _ _).alloc (Nat.le_refl _) _)
  have hsz44 : (Tryz.prog.info? 44).map (·.size) = some (cfgC (.slice pa n pc) (.slice sa scr.length scp)).length := size44
  generalize cfgC (.slice pa n pc) (.slice sa scr.length scp) = cf at *
  have hnI : (n : Int) ≤ 1000 := by omega
  have heI : (ends.length : Int) ≤ 1000 := by omega
  go_enter Tryz.func13, Tryz.ntmps13
  go_upto_region 1 with (fail)
  generalize W.alloc (.cells cf.toArray 44) = W1 at *
  go_wp2_with (with_reducible refine Des.hold_load 44 rfl ?_)
  refine Des.load_ato 0 HE.out.r Tryz.underlying44 rfl hsz44 rfl rfl rfl ?_
  go_wp2_with fail
  refine (HC.out _ HBW.out).mono ?_
  rintro e w2 hcp
  obtain ⟨B, ov, rfl, hB, hown, hb⟩ := hcp
  have HOW := Lib.hid hown
  have HB2 := Lib.hid (HBW.out.trans (hb.mono HBW.out.size))
  have hBB : W.heap.size ≤ B := Nat.le_trans HBW.out.size hB
  have HE2 := Lib.hid (HE.out.below hb HE.out.hi)
  have hov : ∃ oa oc, ov = .slice oa (runS s0 xs xs.length).2.length oc := by
    rcases hown.2 with ⟨h1, h2⟩ | ⟨g, cap, cur, h1, _⟩
    · rw [h2]; exact ⟨_, _, h1⟩
    · exact ⟨_, _, h1⟩
  obtain ⟨oa, oc, rfl⟩ := hov
  have hfl := HRL.out
  clear hown hb hB HE HBW HRL
  by_cases hz : (runS s0 xs xs.length).2.length = 0
  · have HCF2 := Lib.hid (HCF.out.trans (if_pos hz))
    clear HOW HCF
    generalize (runS s0 xs xs.length).2.length = rl at *
    have hzI : ¬ (0 : Int) < (rl : Int) := by omega
    have HHZ := Lib.hid hz
    clear hz
    go_upto_region 4 with (fail)
    go_wp2_with (with_reducible refine Des.hold_load 44 rfl ?_)
    refine Des.load_ato 0 HE2.out.r Tryz.underlying44 rfl hsz44 rfl rfl rfl ?_
    clear hsz44
    go_wp2_with fail
    refine (HF.out _ HB2.out).mono ?_
    rintro e w3 hfp
    obtain ⟨B3, l, ov3, rfl, hB3, hm, hown, hb⟩ := hfp
    have HM := Lib.hid hm
    have HB3 := Lib.hid (HB2.out.trans (hb.mono HB2.out.size))
    have mH : w3.cell? ⟨l.M, 27, none⟩ = some (.slice (some ⟨l.H, 0, none⟩) n n) := by
      have := hm.cH
      rw [HFS.out] at this
      exact this
    have HHL : Hid ((runS s0 xs xs.length).1.h.length = n) := Lib.hid (HOK.out.h.trans HFS.out)
    have HHK : Hid (∀ i, i < (runS s0 xs xs.length).1.h.length → ((runS s0 xs xs.length).1.h.getD i ([], 0)).1.length ≤ 10000) := Lib.hid fun i hi => by have := HOK.out.hl i hi; omega
    clear hm hb hown hB3 HE2 HF HC HFS HOK
    generalize (runS s0 xs xs.length).1 = R at *
    go_wp2_with fail
    clear mH
    go_loopw [13, 38] (fun v13 v38 wr => ∃ (ov : Value) (k : Nat), ov = v13 ∧ k ≤ n ∧ v38 = .int .i64 k ∧ Hid (wr.ownsRow w3.heap.size 70 2 ov (crF R.h ends k).length (fnd (crF R.h ends k))) ∧ Hid (Below w3.heap.size w3 wr)) (fun _ v38 _ => n - (intOf v38).toNat)
    case atStart => exact ⟨_, 0, rfl, Nat.zero_le _, rfl, World.ownsRow_nil _ _ 70 2, Below.refl _ _⟩
    case round =>
      obtain ⟨ov, k, rfl, hk, rfl, HOW, HBr⟩ := hrel
      by_cases hlt : k < n
      · have hltI : (k : Int) < (n : Int) := by omega
        have hkh : k < R.h.length := by rw [HHL.out]; exact hlt
        have HMr := Lib.hid (HM.out.below HBr.out)
        obtain ⟨hc1, hc2⟩ := hC_at l.hs R.h k hkh
        have g0 := HMr.out.h.cell (k * 2) _ hc1
        have g1 := HMr.out.h.cell (k * 2 + 1) _ hc2
        have HMAY : Hid (∀ (s : ByteArray) W', Below wr.heap.size wr W' → s.size ≤ 10000 → Calls Tryz.prog 20 #[.agg #[.slice (l.hs.getD k Sl.nil).a (R.h.getD k ([], 0)).1.length (l.hs.getD k Sl.nil).c, .int .i64 (R.h.getD k ([], 0)).2], .string s] W' (RetW (.bool (Con.mayV (R.h.getD k ([], 0)).1 (R.h.getD k ([], 0)).2 s)) W')) := Lib.hid fun s W' hb hs => Con.may_any 0 _ _ _ _ s W' ((HMr.out.below hb).im.rh k hkh).1 (HHK.out k hkh) (fun x hx => Nat.le_trans (HZZ.out k x hx) (by omega)) hs
        have HSK : Hid (crF R.h ends (k + 1) = crF R.h ends k ++ if Con.mayV (R.h.getD k ([], 0)).1 (R.h.getD k ([], 0)).2 (ends.getD k ⟨#[]⟩) = true then [] else [(-1, 5)]) := Lib.hid rfl
        have hck := crF_len R.h ends k
        have hcl := HHK.out k hkh
        have hsk := HES.out k
        generalize (l.hs.getD k Sl.nil).a = ha at *
        generalize (l.hs.getD k Sl.nil).c = hcc at *
        generalize hhp : R.h.getD k ([], 0) = hp at *
        obtain ⟨hL, hq⟩ := hp
        have HEND : Hid (∀ W', Below wr.heap.size wr W' → k < ends.length → ∃ g, a2 = some ⟨g, 0, none⟩ ∧ ends.length ≤ c2 ∧ W'.cell? ⟨g, k, none⟩ = some (.string (ends.getD k ⟨#[]⟩))) := Lib.hid fun W' hb hke => by
          rcases HST.out with ⟨h1, h2, h3⟩ | ⟨g, h1, _, h3, h4, _, h6⟩
          · rw [h2] at hke; cases hke
          · have hg3 : g < w3.heap.size := Nat.lt_of_lt_of_le h3 HB3.out.size
            exact ⟨g, h1, h4, (hb.cell (p := ⟨g, k, none⟩) (Nat.lt_of_lt_of_le hg3 HBr.out.size)).trans ((HBr.out.cell (p := ⟨g, k, none⟩) hg3).trans ((HB3.out.cell (p := ⟨g, k, none⟩) h3).trans (h6 k hke)))⟩
        clear hc1 hc2 hhp
        have HKE : Hid (¬ k < ends.length → ends.getD k ⟨#[]⟩ = ⟨#[]⟩) := Lib.hid fun h => by simp [List.getD, h]
        generalize ends.getD k ⟨#[]⟩ = sk at *
        go_upto_region 9 with (fail)
        have HA := Lib.hid (At.new wr [.slice ha hL.length hcc, .int .i64 hq] 57)
        have HBa := Lib.hid ((Below.refl wr.heap.size wr).alloc (Nat.le_refl _) (Obj.cells #[.slice ha hL.length hcc, .int .i64 hq] 57))
        have HOWa := Lib.hid (Des.ownsRow_below HOW.out HBa.out)
        have HAa : Hid (At (wr.alloc (Obj.cells #[.slice ha hL.length hcc, .int .i64 hq] 57)) wr.heap.size [.slice ha hL.length hcc, .int .i64 hq]) := HA
        clear HA g0 g1
        generalize wr.alloc (Obj.cells #[.slice ha hL.length hcc, .int .i64 hq] 57) = w4 at *
        obtain ⟨_, _, b0, b1, _⟩ := Des.At.two HAa.out
        by_cases hke : k < ends.length
        · have hkeI : (k : Int) < (ends.length : Int) := by omega
          obtain ⟨g, rfl, hc2, he⟩ := HEND.out w4 HBa.out hke
          have hc2I : (ends.length : Int) ≤ (c2 : Int) := by omega
          go_upto_region 12 with (fail)
          clear he
          have HB3r := Lib.hid (HBr.out.trans (HBa.out.mono HBr.out.size))
          go_wp2_with fail
          refine (HMAY.out _ _ HBa.out hsk).mono ?_
          rintro e w5 ⟨rfl, hb5⟩
          have HB5 := Lib.hid (HB3r.out.trans (hb5.mono HB3r.out.size))
          have HOW5 := Lib.hid (Des.ownsRow_below HOWa.out hb5)
          clear hb5 b0 b1 HOWa HB3r HBa HOW HBr HMAY HMr HEND HAa
          generalize Con.mayV hL hq sk = mB at *
          cases mB with
          | true =>
            go_wp2_with fail
            go_roundw
            case rel => exact ⟨ov, k + 1, rfl, by omega, by go_num, by rw [HSK.out, if_pos trivial, List.append_nil]; exact HOW5, HB5⟩
            case measure => simp [intOf]; omega
          | false =>
            obtain ⟨i0, hi, hz0, hzs, hzb⟩ := info_parts find_info
            have HI := Lib.hid hi
            have HZ := Lib.hid hz0
            have HZS := Lib.hid hzs
            have HZB := Lib.hid hzb
            have HOW6 := Lib.hid (Des.ownsRow_below HOW5.out ((Below.refl w5.heap.size w5).alloc (Nat.le_refl _) (Obj.cells #[.int .i64 (-1), .int .i64 5] 70)))
            have HB6 := Lib.hid (HB5.out.alloc HB5.out.size (Obj.cells #[.int .i64 (-1), .int .i64 5] 70))
            have HN6 : Hid (∀ j u, ([.int .i64 (-1), .int .i64 5] : List Value)[j]? = some u → (w5.alloc (Obj.cells #[.int .i64 (-1), .int .i64 5] 70)).cell? ((⟨w5.heap.size, 0, none⟩ : Addr).add j) = some u) := Lib.hid (World.news_of_block (Go.heap_alloc_new w5 _))
            have HS6 : Hid ((w5.alloc (Obj.cells #[.int .i64 (-1), .int .i64 5] 70)).heap.size = w5.heap.size + 1) := Lib.hid (Des.alloc_size _ _)
            have hB6 : w3.heap.size ≤ w5.heap.size + 1 := by have := HB5.out.size; omega
            generalize crF R.h ends k = fl at *
            clear hi hz0 hzs hzb
            go_wp2_with (at_builtin; refine wpList_append_lies _ rfl _ _ _ rfl w3.heap.size 70 i0 (.agg #[.int .i64 0, .int .i64 0]) 2 16 Tryz.underlying54 HI.out HZ.out HZS.out HZB.out rfl (by omega) ov fl.length (fnd fl) rfl HOW6.out ⟨w5.heap.size, 0, none⟩ 1 1 [.int .i64 (-1), .int .i64 5] rfl rfl HN6.out (by simp [Value.oneCell']) (by omega) (by unfold maxLen; omega) (by omega) (by rw [HS6.out]; exact hB6) (w5.heap.size + 1) HS6.out ?_; intro gn cap w7 hown hgrow hat hlt7; have HOW7 := Lib.hid hown; have HGR := Lib.hid hgrow; clear hown hgrow hat hlt7)
            have HB7 : Hid (Below w3.heap.size w3 w7) := Lib.hid (HB6.out.grown HGR.out HB6.out.size (fun q hq => (HOW5.out.lt q hq).1))
            have HOW8 : Hid (w7.ownsRow w3.heap.size 70 2 (.slice (some ⟨gn, 0, none⟩) (fl.length + 1) cap) (fl ++ [(-1, 5)]).length (fnd (fl ++ [(-1, 5)]))) := Lib.hid (by rw [fnd_snoc, List.length_append, List.length_singleton]; exact HOW7.out)
            go_wp2_with fail
            go_roundw
            case rel => exact ⟨_, k + 1, rfl, by omega, by go_num, by rw [HSK.out, if_neg (by simp)]; exact HOW8, HB7⟩
            case measure => simp [intOf]; omega
        · have hkeI : ¬ (k : Int) < (ends.length : Int) := by omega
          obtain rfl : sk = ⟨#[]⟩ := (HKE.out hke)
          go_upto_region 12 with (fail)
          have HB3r := Lib.hid (HBr.out.trans (HBa.out.mono HBr.out.size))
          go_wp2_with fail
          refine (HMAY.out _ _ HBa.out hsk).mono ?_
          rintro e w5 ⟨rfl, hb5⟩
          have HB5 := Lib.hid (HB3r.out.trans (hb5.mono HB3r.out.size))
          have HOW5 := Lib.hid (Des.ownsRow_below HOWa.out hb5)
          clear hb5 b0 b1 HOWa HB3r HBa HOW HBr HMAY HMr HEND HAa
          generalize Con.mayV hL hq ⟨#[]⟩ = mB at *
          cases mB with
          | true =>
            go_wp2_with fail
            go_roundw
            case rel => exact ⟨ov, k + 1, rfl, by omega, by go_num, by rw [HSK.out, if_pos trivial, List.append_nil]; exact HOW5, HB5⟩
            case measure => simp [intOf]; omega
          | false =>
            obtain ⟨i0, hi, hz0, hzs, hzb⟩ := info_parts find_info
            have HI := Lib.hid hi
            have HZ := Lib.hid hz0
            have HZS := Lib.hid hzs
            have HZB := Lib.hid hzb
            have HOW6 := Lib.hid (Des.ownsRow_below HOW5.out ((Below.refl w5.heap.size w5).alloc (Nat.le_refl _) (Obj.cells #[.int .i64 (-1), .int .i64 5] 70)))
            have HB6 := Lib.hid (HB5.out.alloc HB5.out.size (Obj.cells #[.int .i64 (-1), .int .i64 5] 70))
            have HN6 : Hid (∀ j u, ([.int .i64 (-1), .int .i64 5] : List Value)[j]? = some u → (w5.alloc (Obj.cells #[.int .i64 (-1), .int .i64 5] 70)).cell? ((⟨w5.heap.size, 0, none⟩ : Addr).add j) = some u) := Lib.hid (World.news_of_block (Go.heap_alloc_new w5 _))
            have HS6 : Hid ((w5.alloc (Obj.cells #[.int .i64 (-1), .int .i64 5] 70)).heap.size = w5.heap.size + 1) := Lib.hid (Des.alloc_size _ _)
            have hB6 : w3.heap.size ≤ w5.heap.size + 1 := by have := HB5.out.size; omega
            generalize crF R.h ends k = fl at *
            clear hi hz0 hzs hzb
            go_wp2_with (at_builtin; refine wpList_append_lies _ rfl _ _ _ rfl w3.heap.size 70 i0 (.agg #[.int .i64 0, .int .i64 0]) 2 16 Tryz.underlying54 HI.out HZ.out HZS.out HZB.out rfl (by omega) ov fl.length (fnd fl) rfl HOW6.out ⟨w5.heap.size, 0, none⟩ 1 1 [.int .i64 (-1), .int .i64 5] rfl rfl HN6.out (by simp [Value.oneCell']) (by omega) (by unfold maxLen; omega) (by omega) (by rw [HS6.out]; exact hB6) (w5.heap.size + 1) HS6.out ?_; intro gn cap w7 hown hgrow hat hlt7; have HOW7 := Lib.hid hown; have HGR := Lib.hid hgrow; clear hown hgrow hat hlt7)
            have HB7 : Hid (Below w3.heap.size w3 w7) := Lib.hid (HB6.out.grown HGR.out HB6.out.size (fun q hq => (HOW5.out.lt q hq).1))
            have HOW8 : Hid (w7.ownsRow w3.heap.size 70 2 (.slice (some ⟨gn, 0, none⟩) (fl.length + 1) cap) (fl ++ [(-1, 5)]).length (fnd (fl ++ [(-1, 5)]))) := Lib.hid (by rw [fnd_snoc, List.length_append, List.length_singleton]; exact HOW7.out)
            go_wp2_with fail
            go_roundw
            case rel => exact ⟨_, k + 1, rfl, by omega, by go_num, by rw [HSK.out, if_neg (by simp)]; exact HOW8, HB7⟩
            case measure => simp [intOf]; omega
      · have hkn : k = n := by omega
        subst hkn
        go_wp2_with fail
        exact bodyPost_ret (v := ov) (by simp [results, Tryz.results13, go_sem]) rfl ⟨w3.heap.size, ov, rfl, HB3.out.size, by rw [HCF2.out]; exact HOW.out, HB3.out.trans (HBr.out.mono HB3.out.size)⟩
  · have HCF2 := Lib.hid (HCF.out.trans (if_neg hz))
    have hzI : (0 : Int) < ((runS s0 xs xs.length).2.length : Int) := by omega
    have HO2 : Hid (CraP W CF (.returned (.slice oa (runS s0 xs xs.length).2.length oc)) w2) := Lib.hid ⟨B, _, rfl, hBB, by rw [HCF2.out]; exact HOW.out, HB2.out⟩
    generalize (runS s0 xs xs.length).2.length = rl at *
    go_wp2_with fail
    exact bodyPost_ret (v := .slice oa rl oc) (by simp [results, Tryz.results13, go_sem]) rfl HO2.out
end Go.Proofs.YtimhaidiclbnhaaGreat.Ver
