/- Layer 46, shared texts of this seat, part 42. -/
import Derived.Deep.AppendLies
import Derived.Test.YtimhaidiclbnhaaGreatM37
/- Layer 46: take. -/
set_option linter.unusedSimpArgs false
set_option linter.unusedVariables false
set_option maxRecDepth 100000
namespace Go.Proofs.YtimhaidiclbnhaaGreat.Ver
open Go.ChangeShapes Go.WideShapes Go.ChangeAt Go.RowKit
open Des (Dv De Dn DIn DBlk DAns Vi At RowOf ints DSz)
open Ara (Ar ARow)
open Con (StrRow)

def TakeP (B : Nat) (W : World) (l : Ly) (s : St) (i : Int) (x : Ev) (e : Ending) (w' : World) : Prop := ∃ l', e = .returned (.int .i64 (takeS s i x).1) ∧ Tk B W w' l l' (takeS s i x).2
theorem eqIn_fn (d : Nat) (k : FuncId) (caps : Array Value) (w : World) : (Op.equalIn (d + 1) 1 (.func (.func k) #[] caps) .nilFunc).run Tryz.prog w = .ok false w := by
  simp [Op.equalIn, run_underlying Tryz.underlying1]
theorem eqIn_nil (d : Nat) (w : World) : (Op.equalIn (d + 1) 1 .nilFunc .nilFunc).run Tryz.prog w = .ok true w := by
  simp [Op.equalIn, run_underlying Tryz.underlying1]
theorem eq_fn (k : FuncId) (caps : Array Value) (w : World) : (Op.equal 1 (.func (.func k) #[] caps) .nilFunc).run Tryz.prog w = .ok false w := eqIn_fn 9999 k caps w
theorem eq_nil (w : World) : (Op.equal 1 .nilFunc .nilFunc).run Tryz.prog w = .ok true w := eqIn_nil 9999 w
theorem neq_fn (k : FuncId) (caps : Array Value) (w : World) : (binOp BinOp.neq 1 (.func (.func k) #[] caps) .nilFunc).run Tryz.prog w = .ok (.bool true) w := by
  simp only [binOp]
  simp [eq_fn]
theorem neq_nil (w : World) : (binOp BinOp.neq 1 .nilFunc .nilFunc).run Tryz.prog w = .ok (.bool false) w := by
  simp only [binOp]
  simp [eq_nil]
theorem hand_after {W wh : World} (hb : Below (hW W 14).heap.size (hW W 14) wh) : HMap wh W.heap.size 14 ∧ Below W.heap.size W wh := by
  have hs : (hW W 14).heap.size = W.heap.size + 1 := Des.alloc_size _ _
  have h1 : W.heap.size < (hW W 14).heap.size := by rw [hs]; omega
  refine ⟨?_, ((Below.refl W.heap.size W).alloc (Nat.le_refl _) _).trans (hb.mono (Nat.le_of_lt h1))⟩
  unfold HMap
  rw [hb.block _ h1]
  exact hmap_new W 14
theorem hmap_alloc {W : World} {b : Nat} (h : HMap W b 14) (o : Obj) : HMap (W.alloc o) b 14 := by
  have hb : b < W.heap.size := by
    rcases Nat.lt_or_ge b W.heap.size with h1 | h1
    · exact h1
    · unfold HMap at h; rw [Array.getElem?_eq_none h1] at h; cases h
  unfold HMap
  rw [((Below.refl W.heap.size W).alloc (Nat.le_refl _) o).block b hb]
  exact h
theorem row_k (s : St) (k : Nat) (hk : k < s.st.length) : (stK s k).st.getD k [] = s.st.getD k [] := by
  show (stAt s k).getD k [] = _
  rw [stAt_get s k k hk, if_neg (by omega)]
theorem take_put {B : Nat} {W wa w1 : World} {l l2 : Ly} {s : St} {k E hL g cap : Nat} {cs : List Value} {Y : St} (HT : Tk B W wa l l2 (stK s k)) (hk : k < s.st.length) (hsf : s.st.length = s.fs.length) (HE : At wa E cs) (hE : E ∉ vs l2)
    (hown : w1.ownsRow B 3 1 (.slice (some ⟨g, 0, none⟩) ((s.st.getD k []).length + 1) cap) ((s.st.getD k []).length + 1) (ints (s.st.getD k []) ++ [.int .i64 (hL : Int)]))
    (hgrow : wa.grownBy w1 (Value.slice (l2.st.getD k Sl.nil).a (s.st.getD k []).length (l2.st.getD k Sl.nil).c).ownBlock)
    (hat : (Value.slice (l2.st.getD k Sl.nil).a (s.st.getD k []).length (l2.st.getD k Sl.nil).c).ownBlock = some g ∨ g = wa.heap.size)
    (hY : { stK s k with st := (stK s k).st.set k ((stK s k).st.getD k [] ++ [(hL : Int)]) } = Y) :
    Tk B W (w1.setCell ⟨l2.S, k, none⟩ (.slice (some ⟨g, 0, none⟩) ((s.st.getD k []).length + 1) cap)) l { l2 with st := l2.st.set k ⟨some ⟨g, 0, none⟩, cap⟩ } Y ∧ At (w1.setCell ⟨l2.S, k, none⟩ (.slice (some ⟨g, 0, none⟩) ((s.st.getD k []).length + 1) cap)) E cs := by
  subst hY
  have er := row_k s k hk
  rw [← er] at hown hgrow hat
  rw [show s.st.getD k [] = (stK s k).st.getD k [] from er.symm]
  obtain ⟨h1, h2, h3⟩ := HT.m.putS k (by show k < (stAt s k).length; rw [stAt_len]; exact hk) (by show (stAt s k).length = s.fs.length; rw [stAt_len]; exact hsf) hL g cap hown hgrow hat
  exact ⟨HT.step h1 h2 h3 rfl rfl, Tk.at HE h2 hE⟩
set_option maxHeartbeats 40000000 in
theorem take_any (K B : Nat) (l : Ly) (s : St) (i : Int) (x : Ev) (W : World) (h : Mm B W l s) (ok : Ok K s) (hK : K < 9000) (hx : knB s x = true) :
    Calls Tryz.prog 25 #[.pointer (some ⟨l.M, 0, none⟩), .int .i64 i, evVal x] W (TakeP B W l s i x) := by
  have HM := Lib.hid h
  have HOK := Lib.hid ok
  have HX := Lib.hid hx
  have HE := Lib.hid (Des.At.new W x.cells 64)
  have HT : Hid (Tk B W (W.alloc (.cells x.cells.toArray 64)) l l s) := Lib.hid ((Tk.refl h).below ((Below.refl _ _).alloc (Nat.le_refl _) _))
  have hn := ok.nf
  unfold evVal
  unfold Ev.cells at HT
  clear h ok hx
  go_enter Tryz.func25, Tryz.ntmps25
  go_upto_region 1 with (fail)
  have HE : Hid (At (World.alloc W (Obj.cells #[.int .i64 x.tm, .int .i64 x.pr, .int .i64 x.ix, .int .i64 x.fi, .int .i64 x.at', .int .i64 x.bg, .int .i64 x.er, .int .i64 x.n, .string x.dat] 64)) W.heap.size x.cells) := HE
  have hW1 : W.heap.size < (World.alloc W (Obj.cells #[.int .i64 x.tm, .int .i64 x.pr, .int .i64 x.ix, .int .i64 x.fi, .int .i64 x.at', .int .i64 x.bg, .int .i64 x.er, .int .i64 x.n, .string x.dat] 64)).heap.size := by rw [Des.alloc_size]; omega
  generalize World.alloc W (Obj.cells #[.int .i64 x.tm, .int .i64 x.pr, .int .i64 x.ix, .int .i64 x.fi, .int .i64 x.at', .int .i64 x.bg, .int .i64 x.er, .int .i64 x.n, .string x.dat] 64) = W1 at *
  have mH := HT.out.m.cH
  have hnI : (s.fs.length : Int) ≤ 1000 := by omega
  go_wp2_with fail
  clear mH
  go_loopw [20] (fun v20 wr => ∃ (k : Nat) (l2 : Ly), k ≤ s.fs.length ∧ v20 = .int .i64 k ∧ Hid (l2.H = l.H) ∧ Hid (Tk B W1 wr l l2 (stK s k)) ∧ Hid (At wr W.heap.size x.cells)) (fun v20 _ => s.fs.length - (intOf v20).toNat)
  case atStart => exact ⟨0, l, Nat.zero_le _, rfl, Lib.hid rfl, (by rw [stK_zero]; exact Lib.hid (Tk.refl HT.out.m)), HE⟩
  case round =>
    obtain ⟨k, l2, hk, rfl, HH, HTk, HEr⟩ := hrel
    clear HE
    by_cases hlt : k < s.fs.length
    · have hltI : (k : Int) < (s.fs.length : Int) := by omega
      have hkh : k < s.h.length := by have := HOK.out.h; omega
      have hks : k < s.st.length := by have := HOK.out.st; omega
      have HC : Hid (wr.cell? ⟨l.H, k * 2, none⟩ = some (.slice (l2.hs.getD k Sl.nil).a (s.h.getD k ([], 0)).1.length (l2.hs.getD k Sl.nil).c) ∧ wr.cell? ⟨l.H, k * 2 + 1, none⟩ = some (.int .i64 (s.h.getD k ([], 0)).2)) := Lib.hid (by
        obtain ⟨h1, h2⟩ := hC_at l2.hs s.h k hkh
        rw [← HH.out]
        exact ⟨HTk.out.m.h.cell (k * 2) _ h1, HTk.out.m.h.cell (k * 2 + 1) _ h2⟩)
      have HSK := Lib.hid (stK_succ s k hks)
      have hcl : (s.h.getD k ([], 0)).1.length ≤ 10000 := by have := HOK.out.hl k hkh; omega
      obtain ⟨c0, c1⟩ := HC.out
      generalize (l2.hs.getD k Sl.nil).a = ha at *
      generalize (l2.hs.getD k Sl.nil).c = hc at *
      generalize (s.h.getD k ([], 0)).2 = hq at *
      generalize (s.h.getD k ([], 0)).1.length = hL at *
      clear HC
      go_upto_region 4 with (fail)
      have HA := Lib.hid (At.new wr [.slice ha hL hc, .int .i64 hq] 57)
      have HT3 := Lib.hid (HTk.out.below ((Below.refl _ _).alloc (Nat.le_refl _) (Obj.cells #[.slice ha hL hc, .int .i64 hq] 57)))
      have HE3 := Lib.hid (HEr.out.alloc (Obj.cells #[.slice ha hL hc, .int .i64 hq] 57))
      have HA3 : Hid (At (wr.alloc (Obj.cells #[.slice ha hL hc, .int .i64 hq] 57)) wr.heap.size [.slice ha hL hc, .int .i64 hq]) := HA
      clear HA c0 c1
      have hEn : W.heap.size ∉ vs l2 := fun hm => by
        rcases HTk.out.n _ hm with h1 | h1
        · have := HM.out.hi _ h1; omega
        · omega
      have hlo : ∀ b, b ∈ vs l2 → b < wr.heap.size := HTk.out.m.hi
      have HLO := Lib.hid hlo
      clear hlo HTk HEr
      generalize wr.alloc (Obj.cells #[.slice ha hL hc, .int .i64 hq] 57) = w3 at *
      have HT4 := Lib.hid (HT3.out.below (Below.refl w3.heap.size w3).drew)
      have HE4 := Lib.hid (Des.At.drew HE3.out)
      have HA4 := Lib.hid (Des.At.drew HA3.out)
      have hh := HA3.out.hi
      have hMM : l2.M = l.M := HT4.out.M
      have ymS : w3.cell? ⟨l.M, 28, none⟩ = some (.slice (some ⟨l2.S, 0, none⟩) s.fs.length s.fs.length) := by rw [← hMM]; exact HT3.out.m.cS
      have mS : w3.drew.cell? ⟨l.M, 28, none⟩ = some (.slice (some ⟨l2.S, 0, none⟩) s.fs.length s.fs.length) := by rw [← hMM]; exact HT4.out.m.cS
      have ysS : w3.cell? ⟨l2.S, k, none⟩ = some (.slice (l2.st.getD k Sl.nil).a (s.st.getD k []).length (l2.st.getD k Sl.nil).c) := by
        have h1 := HT3.out.m.S.cell k _ (slC_at l2.st (stK s k).st k (by show k < (stAt s k).length; rw [stAt_len]; exact hks))
        rw [row_k s k hks] at h1
        exact h1
      have sS : w3.drew.cell? ⟨l2.S, k, none⟩ = some (.slice (l2.st.getD k Sl.nil).a (s.st.getD k []).length (l2.st.getD k Sl.nil).c) := by
        have h1 := HT4.out.m.S.cell k _ (slC_at l2.st (stK s k).st k (by show k < (stAt s k).length; rw [stAt_len]; exact hks))
        rw [row_k s k hks] at h1
        exact h1
      have b0 := HA4.out.cell 0 (.slice ha hL hc) rfl
      have yb0 := HA3.out.cell 0 (.slice ha hL hc) rfl
      have HOW : Hid (w3.drew.ownsRow B 3 1 (.slice (l2.st.getD k Sl.nil).a (s.st.getD k []).length (l2.st.getD k Sl.nil).c) (s.st.getD k []).length (ints (s.st.getD k []))) := Lib.hid (by
        have h1 := HT4.out.m.rs k (by show k < (stAt s k).length; rw [stAt_len]; exact hks)
        rw [row_k s k hks] at h1
        exact h1)
      have HF : Hid ((∀ q, (Value.slice (l2.st.getD k Sl.nil).a (s.st.getD k []).length (l2.st.getD k Sl.nil).c).ownBlock = some q → q ∈ stB l2.st) ∧ l.M ∉ stB l2.st ∧ l2.S ∉ stB l2.st) := Lib.hid ⟨fun q hq => mem_stB (by rw [HT4.out.m.la']; show k < (stAt s k).length; rw [stAt_len]; exact hks) hq, by rw [← hMM]; exact HT4.out.m.nst.1, HT4.out.m.nst.2.2.2.2.2.2.1⟩
      have HPUT : Hid (∀ (wa w1 : World) (g cap : Nat), Below w3.heap.size w3 wa → w1.ownsRow B 3 1 (.slice (some ⟨g, 0, none⟩) ((s.st.getD k []).length + 1) cap) ((s.st.getD k []).length + 1) (ints (s.st.getD k []) ++ [.int .i64 (hL : Int)]) → wa.grownBy w1 (Value.slice (l2.st.getD k Sl.nil).a (s.st.getD k []).length (l2.st.getD k Sl.nil).c).ownBlock → ((Value.slice (l2.st.getD k Sl.nil).a (s.st.getD k []).length (l2.st.getD k Sl.nil).c).ownBlock = some g ∨ g = wa.heap.size) → Tk B W1 (w1.setCell ⟨l2.S, k, none⟩ (.slice (some ⟨g, 0, none⟩) ((s.st.getD k []).length + 1) cap)) l { l2 with st := l2.st.set k ⟨some ⟨g, 0, none⟩, cap⟩ } (stK s (k + 1)) ∧ At (w1.setCell ⟨l2.S, k, none⟩ (.slice (some ⟨g, 0, none⟩) ((s.st.getD k []).length + 1) cap)) W.heap.size x.cells) := Lib.hid fun wa w1 g cap hb h1 h2 h3 => take_put (HT3.out.below hb) hks HOK.out.st (HE3.out.below hb HE3.out.hi) hEn h1 h2 h3 HSK.out
      have hnl : (s.st.getD k []).length ≤ 10000 := by have := HOK.out.sl k hks; omega
      have hSS : l2.S < wr.heap.size := HLO.out _ (mvs l2).2.2.2.2.2.2.1
      have hMl : l.M < wr.heap.size := by rw [← hMM]; exact HLO.out _ (mvs l2).1
      have hB : B ≤ w3.heap.size := HT4.out.m.hB
      have HMM := Lib.hid hMM
      clear hMM
      generalize (s.st.getD k []) = row at *
      have fS : w3.drew.frozen? ⟨l2.S, k, none⟩ = false := HT4.out.m.S.free k (by rw [slC_len]; show k < (stAt s k).length; rw [stAt_len]; exact hks)
      have yfS : w3.frozen? ⟨l2.S, k, none⟩ = false := HT3.out.m.S.free k (by rw [slC_len]; show k < (stAt s k).length; rw [stAt_len]; exact hks)
      generalize hslk : l2.st.getD k Sl.nil = slk at *
      obtain ⟨a0, c0⟩ := slk
      simp only at sS ysS HOW HF HPUT
      obtain ⟨i0, hi, hz0, hz1, hz2⟩ := info_parts Des.int_info
      have HI := Lib.hid hi
      have HZ := Lib.hid hz0
      have HZ1 := Lib.hid hz1
      have HZ2 := Lib.hid hz2
      clear hi hz0 hz1 hz2
      have n1 : ¬ l.M = w3.heap.size := by omega
      have n4 : ¬ w3.heap.size = l.M := by omega
      have n5 : ¬ w3.heap.size = l2.S := by omega
      have n6 : ¬ w3.heap.size = wr.heap.size := by omega
      have n2 : ¬ l2.S = w3.heap.size := by omega
      have n7 : ¬ l2.S = l.M := by rw [← HMM.out]; exact HT4.out.m.ne.1.2.2.2.2.2.1.symm
      have n8 : ¬ l.M = l2.S := fun e => n7 e.symm
      have n9 : ¬ l2.S = wr.heap.size := by omega
      have n10 : ¬ wr.heap.size = l2.S := by omega
      have n3 : ¬ wr.heap.size = w3.heap.size := by omega
      have hne1 : some l.M ≠ (Value.slice a0 row.length c0).ownBlock := fun e => HF.out.2.1 (HF.out.1 _ e.symm)
      have hne2 : some l2.S ≠ (Value.slice a0 row.length c0).ownBlock := fun e => HF.out.2.2 (HF.out.1 _ e.symm)
      have hne3 : some wr.heap.size ≠ (Value.slice a0 row.length c0).ownBlock := fun e => by
        have := HLO.out _ (List.mem_append.2 (Or.inr (HF.out.1 _ e.symm)))
        omega
      have zS : (w3.alloc (Obj.cells #[.int .i64 (hL : Int)] 3)).cell? ⟨l2.S, k, none⟩ = some (.slice a0 row.length c0) := (World.cell?_alloc_lt _ _ _ (by show l2.S < w3.heap.size; omega)).trans ysS
      have zf : (w3.alloc (Obj.cells #[.int .i64 (hL : Int)] 3)).frozen? ⟨l2.S, k, none⟩ = false := (((Below.refl w3.heap.size w3).alloc (Nat.le_refl _) _).frozen (p := ⟨l2.S, k, none⟩) (by show l2.S < w3.heap.size; omega)).trans yfS
      refine wp_region_held_drew (S := fun w' => w'.cell? ⟨l.M, 28, none⟩ = some (.slice (some ⟨l2.S, 0, none⟩) s.fs.length s.fs.length) ∧ w'.cell? ⟨wr.heap.size, 0, none⟩ = some (.slice ha hL hc)) (by kernel_rfl) (by (try dsimp only); go_keep) (fun hHeld => ?_)
      refine wpAnyH_take (i := 0) (oi := { dst := some 25, op := Op.move (Operand.tmp 0), type := 76, pos := "verify.go:338", after := #[], guard := none }) (v := ?_) rfl (by kernel_rfl) (by kernel_rfl) (by kernel_rfl) (fun _ _ _ h => h) (Or.inl ⟨by rfl, ?_⟩) (by assumption) ?_
      rotate_left
      focus ((intro w hSw; (try dsimp only at hSw); go_simp) <;> (try with_reducible rfl))
      try simp only [Act.put, List.setIfInBounds_toArray, List.set_cons_zero, List.set_cons_succ]
      refine wpAnyH_take (i := 1) (oi := { dst := some 26, op := Op.nilCheck (Operand.tmp 25), type := 0, pos := "verify.go:338", after := #[{ on := 0, ground := Ground.data }], guard := none }) (v := ?_) rfl (by kernel_rfl) (by kernel_rfl) (by kernel_rfl) (fun _ _ _ h => h) (Or.inl ⟨by rfl, ?_⟩) (by assumption) ?_
      rotate_left
      focus ((intro w hSw; (try dsimp only at hSw); go_simp) <;> (try with_reducible rfl))
      try simp only [Act.put, List.setIfInBounds_toArray, List.set_cons_zero, List.set_cons_succ]
      refine wpAnyH_take (i := 2) (oi := { dst := some 27, op := Op.fieldAddr 86 (Operand.tmp 26) 7, type := 0, pos := "verify.go:338", after := #[{ on := 1, ground := Ground.data }], guard := none }) (v := ?_) rfl (by kernel_rfl) (by kernel_rfl) (by kernel_rfl) (fun _ _ _ h => h) (Or.inl ⟨by rfl, ?_⟩) (by assumption) ?_
      rotate_left
      focus ((intro w hSw; (try dsimp only at hSw); go_simp) <;> (try with_reducible rfl))
      try simp only [Act.put, List.setIfInBounds_toArray, List.set_cons_zero, List.set_cons_succ]
      refine wpAnyH_take (i := 3) (oi := { dst := some 28, op := Op.load 81 (Operand.tmp 27), type := 81, pos := "verify.go:338", after := #[{ on := 2, ground := Ground.data }], guard := none }) (v := ?_) rfl (by kernel_rfl) (by kernel_rfl) (by kernel_rfl) (fun _ _ _ h => h) (Or.inl ⟨by rfl, ?_⟩) (by assumption) ?_
      rotate_left
      focus ((intro w hSw; (try dsimp only at hSw); go_simp) <;> (try with_reducible rfl))
      try simp only [Act.put, List.setIfInBounds_toArray, List.set_cons_zero, List.set_cons_succ]
      refine wpAnyH_take (i := 4) (oi := { dst := some 29, op := Op.move (Operand.tmp 7), type := 3, pos := "verify.go:338", after := #[], guard := none }) (v := ?_) rfl (by kernel_rfl) (by kernel_rfl) (by kernel_rfl) (fun _ _ _ h => h) (Or.inl ⟨by rfl, ?_⟩) (by assumption) ?_
      rotate_left
      focus ((intro w hSw; (try dsimp only at hSw); go_simp) <;> (try with_reducible rfl))
      try simp only [Act.put, List.setIfInBounds_toArray, List.set_cons_zero, List.set_cons_succ]
      refine wpAnyH_take (i := 5) (oi := { dst := some 30, op := Op.move (Operand.tmp 0), type := 76, pos := "verify.go:338", after := #[], guard := none }) (v := ?_) rfl (by kernel_rfl) (by kernel_rfl) (by kernel_rfl) (fun _ _ _ h => h) (Or.inl ⟨by rfl, ?_⟩) (by assumption) ?_
      rotate_left
      focus ((intro w hSw; (try dsimp only at hSw); go_simp) <;> (try with_reducible rfl))
      try simp only [Act.put, List.setIfInBounds_toArray, List.set_cons_zero, List.set_cons_succ]
      refine wpAnyH_take (i := 6) (oi := { dst := some 31, op := Op.nilCheck (Operand.tmp 30), type := 0, pos := "verify.go:338", after := #[{ on := 5, ground := Ground.data }], guard := none }) (v := ?_) rfl (by kernel_rfl) (by kernel_rfl) (by kernel_rfl) (fun _ _ _ h => h) (Or.inl ⟨by rfl, ?_⟩) (by assumption) ?_
      rotate_left
      focus ((intro w hSw; (try dsimp only at hSw); go_simp) <;> (try with_reducible rfl))
      try simp only [Act.put, List.setIfInBounds_toArray, List.set_cons_zero, List.set_cons_succ]
      refine wpAnyH_take (i := 7) (oi := { dst := some 32, op := Op.fieldAddr 86 (Operand.tmp 31) 7, type := 0, pos := "verify.go:338", after := #[{ on := 6, ground := Ground.data }], guard := none }) (v := ?_) rfl (by kernel_rfl) (by kernel_rfl) (by kernel_rfl) (fun _ _ _ h => h) (Or.inl ⟨by rfl, ?_⟩) (by assumption) ?_
      rotate_left
      focus ((intro w hSw; (try dsimp only at hSw); go_simp) <;> (try with_reducible rfl))
      try simp only [Act.put, List.setIfInBounds_toArray, List.set_cons_zero, List.set_cons_succ]
      refine wpAnyH_take (i := 8) (oi := { dst := some 33, op := Op.load 81 (Operand.tmp 32), type := 81, pos := "verify.go:338", after := #[{ on := 7, ground := Ground.data }], guard := none }) (v := ?_) rfl (by kernel_rfl) (by kernel_rfl) (by kernel_rfl) (fun _ _ _ h => h) (Or.inl ⟨by rfl, ?_⟩) (by assumption) ?_
      rotate_left
      focus ((intro w hSw; (try dsimp only at hSw); go_simp) <;> (try with_reducible rfl))
      try simp only [Act.put, List.setIfInBounds_toArray, List.set_cons_zero, List.set_cons_succ]
      refine wpAnyH_take (i := 9) (oi := { dst := some 34, op := Op.move (Operand.tmp 7), type := 3, pos := "verify.go:338", after := #[], guard := none }) (v := ?_) rfl (by kernel_rfl) (by kernel_rfl) (by kernel_rfl) (fun _ _ _ h => h) (Or.inl ⟨by rfl, ?_⟩) (by assumption) ?_
      rotate_left
      focus ((intro w hSw; (try dsimp only at hSw); go_simp) <;> (try with_reducible rfl))
      try simp only [Act.put, List.setIfInBounds_toArray, List.set_cons_zero, List.set_cons_succ]
      refine wpAnyH_take (i := 10) (oi := { dst := some 35, op := Op.indexAddr 81 (Operand.tmp 33) (Operand.tmp 34), type := 0, pos := "verify.go:338", after := #[{ on := 8, ground := Ground.data }, { on := 9, ground := Ground.data }], guard := none }) (v := ?_) rfl (by kernel_rfl) (by kernel_rfl) (by kernel_rfl) (fun _ _ _ h => h) (Or.inl ⟨by rfl, ?_⟩) (by assumption) ?_
      rotate_left
      focus ((intro w hSw; (try dsimp only at hSw); go_simp) <;> (try with_reducible rfl))
      try simp only [Act.put, List.setIfInBounds_toArray, List.set_cons_zero, List.set_cons_succ]
      refine wpAnyH_take (i := 12) (oi := { dst := some 37, op := Op.fieldAddr 57 (Operand.tmp 8) 0, type := 0, pos := "verify.go:338", after := #[], guard := none }) (v := ?_) rfl (by kernel_rfl) (by kernel_rfl) (by kernel_rfl) (fun _ _ _ h => h) (Or.inl ⟨by rfl, ?_⟩) (by assumption) ?_
      rotate_left
      focus ((intro w hSw; (try dsimp only at hSw); go_simp) <;> (try with_reducible rfl))
      try simp only [Act.put, List.setIfInBounds_toArray, List.set_cons_zero, List.set_cons_succ]
      refine wpAnyH_take (i := 13) (oi := { dst := some 38, op := Op.load 47 (Operand.tmp 37), type := 47, pos := "verify.go:338", after := #[{ on := 12, ground := Ground.data }], guard := none }) (v := ?_) rfl (by kernel_rfl) (by kernel_rfl) (by kernel_rfl) (fun _ _ _ h => h) (Or.inl ⟨by rfl, ?_⟩) (by assumption) ?_
      rotate_left
      focus ((intro w hSw; (try dsimp only at hSw); go_simp) <;> (try with_reducible rfl))
      try simp only [Act.put, List.setIfInBounds_toArray, List.set_cons_zero, List.set_cons_succ]
      refine wpAnyH_take (i := 14) (oi := { dst := some 39, op := Op.call { callee := Callee.builtin Builtin.len, args := #[Operand.tmp 38], argTypes := #[47] }, type := 3, pos := "verify.go:338", after := #[{ on := 13, ground := Ground.data }], guard := none }) (v := ?_) rfl (by kernel_rfl) (by kernel_rfl) (by kernel_rfl) (fun _ _ _ h => h) (Or.inl ⟨by rfl, ?_⟩) (by assumption) ?_
      rotate_left
      focus ((intro w hSw; (try dsimp only at hSw); go_simp) <;> (try with_reducible rfl))
      try simp only [Act.put, List.setIfInBounds_toArray, List.set_cons_zero, List.set_cons_succ]
      refine wpAnyH_ready (rs := [11, 15]) (by kernel_rfl) (by simp) ?_
      refine AllReadyH.cons (o := { dst := some 36, op := Op.load 22 (Operand.tmp 35), type := 22, pos := "verify.go:338", after := #[{ on := 10, ground := Ground.data }], guard := none }) rfl (fun KQ hKQ => ?_) (AllReadyH.cons (o := { dst := some 40, op := Op.buildSlice 22 1 #[(0, Operand.tmp 39)], type := 22, pos := "verify.go:338", after := #[{ on := 14, ground := Ground.data }], guard := none }) rfl (fun KQ hKQ => ?_) AllReadyH.nil)
      · go_simp
        refine hKQ.out _ _ (by (try dsimp only); go_keep) (fun hHeld => ?_)
        clear hKQ KQ
        try simp only [Act.put, List.setIfInBounds_toArray, List.set_cons_zero, List.set_cons_succ]
        refine wpAnyH_ready (rs := [15]) (by kernel_rfl) (by simp) ?_
        refine AllReadyH.cons (o := { dst := some 40, op := Op.buildSlice 22 1 #[(0, Operand.tmp 39)], type := 22, pos := "verify.go:338", after := #[{ on := 14, ground := Ground.data }], guard := none }) rfl (fun KQ hKQ => ?_) AllReadyH.nil
        go_simp
        refine hKQ.out _ _ (by (try dsimp only); go_keep) (fun hHeld => ?_)
        clear hKQ KQ
        try simp only [Act.put, List.setIfInBounds_toArray, List.set_cons_zero, List.set_cons_succ]
        refine wpAnyH_ready (rs := [16]) (by kernel_rfl) (by simp) ?_
        refine AllReadyH.cons (o := { dst := some 41, op := Op.call { callee := Callee.builtin Builtin.append, args := #[Operand.tmp 36, Operand.tmp 40], argTypes := #[22, 22] }, type := 22, pos := "verify.go:338", after := #[{ on := 11, ground := Ground.data }, { on := 15, ground := Ground.data }], guard := none }) rfl (fun KQ hKQ => ?_) AllReadyH.nil
        refine step_append_lies _ (by rfl) _ _ _ (by rfl) B 3 i0 (.int .i64 0) 1 8 Tryz.underlying22 HI.out HZ.out HZ1.out HZ2.out (by rfl) (by omega) (.slice a0 row.length c0) row.length (ints row) (by rfl) (Des.ownsRow_below HOW.out ((Below.refl _ _).alloc (Nat.le_refl _) _)) ⟨w3.heap.size, 0, none⟩ 1 1 [.int .i64 (hL : Int)] (by rfl) (by rfl) (World.news_of_block (Go.heap_alloc_new _ _)) (by simp [Value.oneCell']) (by omega) (by unfold maxLen; omega) (by omega) (by simp; omega) (w3.heap.size + 1) (by simp) ?_
        intro g cap w1 hown1 hgrow hat hlt1
        have HGR := Lib.hid hgrow
        have HOW1 := Lib.hid hown1
        have HAT := Lib.hid hat
        have k1 : w1.cell? ⟨l.M, 28, none⟩ = some (.slice (some ⟨l2.S, 0, none⟩) s.fs.length s.fs.length) := (hgrow.cell_far ⟨l.M, 28, none⟩ (by simp; omega) hne1).trans (by simp [*])
        have k2 : w1.cell? ⟨l2.S, k, none⟩ = some (.slice a0 row.length c0) := (hgrow.cell_far ⟨l2.S, k, none⟩ (by simp; omega) hne2).trans zS
        have k3 : w1.cell? ⟨wr.heap.size, 0, none⟩ = some (.slice ha hL hc) := (hgrow.cell_far ⟨wr.heap.size, 0, none⟩ (by simp; omega) hne3).trans (by simp [*])
        have k4 : w1.frozen? ⟨l2.S, k, none⟩ = false := (hgrow.frozen_far ⟨l2.S, k, none⟩ (by simp; omega) hne2).trans zf
        have k5 : w3.heap.size < w1.heap.size := by have := hgrow.size; simp at this; omega
        clear hgrow hown1 hat
        refine hKQ.out _ _ (by (try dsimp only); go_keep) (fun hHeld => ?_)
        clear hKQ KQ
        try simp only [Act.put, List.setIfInBounds_toArray, List.set_cons_zero, List.set_cons_succ]
        refine wpAnyH_take (i := 17) (oi := { dst := some 42, op := Op.indexAddr 81 (Operand.tmp 28) (Operand.tmp 29), type := 0, pos := "verify.go:338", after := #[{ on := 3, ground := Ground.data }, { on := 4, ground := Ground.data }, { on := 0, ground := Ground.phase }, { on := 1, ground := Ground.phase }, { on := 2, ground := Ground.phase }, { on := 3, ground := Ground.phase }, { on := 4, ground := Ground.phase }, { on := 5, ground := Ground.phase }, { on := 6, ground := Ground.phase }, { on := 7, ground := Ground.phase }, { on := 8, ground := Ground.phase }, { on := 9, ground := Ground.phase }, { on := 10, ground := Ground.phase }, { on := 11, ground := Ground.phase }, { on := 12, ground := Ground.phase }, { on := 13, ground := Ground.phase }, { on := 14, ground := Ground.phase }, { on := 15, ground := Ground.phase }, { on := 16, ground := Ground.phase }], guard := none }) (v := ?_) rfl (by kernel_rfl) (by kernel_rfl) (by kernel_rfl) (fun _ _ _ h => h) (Or.inl ⟨by rfl, ?_⟩) (by assumption) ?_
        rotate_left
        focus ((intro w hSw; (try dsimp only at hSw); go_simp) <;> (try with_reducible rfl))
        try simp only [Act.put, List.setIfInBounds_toArray, List.set_cons_zero, List.set_cons_succ]
        refine wpAnyH_ready (rs := [18]) (by kernel_rfl) (by simp) ?_
        refine AllReadyH.cons (o := { dst := none, op := Op.store 22 (Operand.tmp 42) (Operand.tmp 41), type := 0, pos := "verify.go:338", after := #[{ on := 17, ground := Ground.data }, { on := 16, ground := Ground.data }, { on := 16, ground := Ground.chain }, { on := 0, ground := Ground.phase }, { on := 1, ground := Ground.phase }, { on := 2, ground := Ground.phase }, { on := 3, ground := Ground.phase }, { on := 4, ground := Ground.phase }, { on := 5, ground := Ground.phase }, { on := 6, ground := Ground.phase }, { on := 7, ground := Ground.phase }, { on := 8, ground := Ground.phase }, { on := 9, ground := Ground.phase }, { on := 10, ground := Ground.phase }, { on := 11, ground := Ground.phase }, { on := 12, ground := Ground.phase }, { on := 13, ground := Ground.phase }, { on := 14, ground := Ground.phase }, { on := 15, ground := Ground.phase }, { on := 16, ground := Ground.phase }], guard := none }) rfl (fun KQ hKQ => ?_) AllReadyH.nil
        go_simp
        refine hKQ.out _ _ (by (try dsimp only); go_keep) (fun hHeld => ?_)
        clear hKQ KQ
        try simp only [Act.put, List.setIfInBounds_toArray, List.set_cons_zero, List.set_cons_succ]
        refine wpAnyH_done (by kernel_rfl) ?_ _
        obtain ⟨hp1, hp2⟩ := HPUT.out _ _ _ _ (((Below.refl w3.heap.size w3).alloc (Nat.le_refl _) _).drew) HOW1.out HGR.out (by rcases HAT.out with h1 | h1; exact Or.inl h1; exact Or.inr (by rw [h1]; simp))
        have HP1 := Lib.hid hp1
        have HP2 := Lib.hid hp2
        clear hp1 hp2
        go_wp2_with fail
        go_roundw
        case rel => exact ⟨k + 1, { l2 with st := l2.st.set k ⟨some ⟨g, 0, none⟩, cap⟩ }, by omega, by go_num, HH, HP1, HP2⟩
        case measure => simp [intOf]; omega
      · go_simp
        refine hKQ.out _ _ (by (try dsimp only); go_keep) (fun hHeld => ?_)
        clear hKQ KQ
        try simp only [Act.put, List.setIfInBounds_toArray, List.set_cons_zero, List.set_cons_succ]
        refine wpAnyH_ready (rs := [11]) (by kernel_rfl) (by simp) ?_
        refine AllReadyH.cons (o := { dst := some 36, op := Op.load 22 (Operand.tmp 35), type := 22, pos := "verify.go:338", after := #[{ on := 10, ground := Ground.data }], guard := none }) rfl (fun KQ hKQ => ?_) AllReadyH.nil
        go_simp
        refine hKQ.out _ _ (by (try dsimp only); go_keep) (fun hHeld => ?_)
        clear hKQ KQ
        try simp only [Act.put, List.setIfInBounds_toArray, List.set_cons_zero, List.set_cons_succ]
        refine wpAnyH_ready (rs := [16]) (by kernel_rfl) (by simp) ?_
        refine AllReadyH.cons (o := { dst := some 41, op := Op.call { callee := Callee.builtin Builtin.append, args := #[Operand.tmp 36, Operand.tmp 40], argTypes := #[22, 22] }, type := 22, pos := "verify.go:338", after := #[{ on := 11, ground := Ground.data }, { on := 15, ground := Ground.data }], guard := none }) rfl (fun KQ hKQ => ?_) AllReadyH.nil
        refine step_append_lies _ (by rfl) _ _ _ (by rfl) B 3 i0 (.int .i64 0) 1 8 Tryz.underlying22 HI.out HZ.out HZ1.out HZ2.out (by rfl) (by omega) (.slice a0 row.length c0) row.length (ints row) (by rfl) (Des.ownsRow_below HOW.out ((Below.refl _ _).alloc (Nat.le_refl _) _)) ⟨w3.heap.size, 0, none⟩ 1 1 [.int .i64 (hL : Int)] (by rfl) (by rfl) (World.news_of_block (Go.heap_alloc_new _ _)) (by simp [Value.oneCell']) (by omega) (by unfold maxLen; omega) (by omega) (by simp; omega) (w3.heap.size + 1) (by simp) ?_
        intro g cap w1 hown1 hgrow hat hlt1
        have HGR := Lib.hid hgrow
        have HOW1 := Lib.hid hown1
        have HAT := Lib.hid hat
        have k1 : w1.cell? ⟨l.M, 28, none⟩ = some (.slice (some ⟨l2.S, 0, none⟩) s.fs.length s.fs.length) := (hgrow.cell_far ⟨l.M, 28, none⟩ (by simp; omega) hne1).trans (by simp [*])
        have k2 : w1.cell? ⟨l2.S, k, none⟩ = some (.slice a0 row.length c0) := (hgrow.cell_far ⟨l2.S, k, none⟩ (by simp; omega) hne2).trans zS
        have k3 : w1.cell? ⟨wr.heap.size, 0, none⟩ = some (.slice ha hL hc) := (hgrow.cell_far ⟨wr.heap.size, 0, none⟩ (by simp; omega) hne3).trans (by simp [*])
        have k4 : w1.frozen? ⟨l2.S, k, none⟩ = false := (hgrow.frozen_far ⟨l2.S, k, none⟩ (by simp; omega) hne2).trans zf
        have k5 : w3.heap.size < w1.heap.size := by have := hgrow.size; simp at this; omega
        clear hgrow hown1 hat
        refine hKQ.out _ _ (by (try dsimp only); go_keep) (fun hHeld => ?_)
        clear hKQ KQ
        try simp only [Act.put, List.setIfInBounds_toArray, List.set_cons_zero, List.set_cons_succ]
        refine wpAnyH_take (i := 17) (oi := { dst := some 42, op := Op.indexAddr 81 (Operand.tmp 28) (Operand.tmp 29), type := 0, pos := "verify.go:338", after := #[{ on := 3, ground := Ground.data }, { on := 4, ground := Ground.data }, { on := 0, ground := Ground.phase }, { on := 1, ground := Ground.phase }, { on := 2, ground := Ground.phase }, { on := 3, ground := Ground.phase }, { on := 4, ground := Ground.phase }, { on := 5, ground := Ground.phase }, { on := 6, ground := Ground.phase }, { on := 7, ground := Ground.phase }, { on := 8, ground := Ground.phase }, { on := 9, ground := Ground.phase }, { on := 10, ground := Ground.phase }, { on := 11, ground := Ground.phase }, { on := 12, ground := Ground.phase }, { on := 13, ground := Ground.phase }, { on := 14, ground := Ground.phase }, { on := 15, ground := Ground.phase }, { on := 16, ground := Ground.phase }], guard := none }) (v := ?_) rfl (by kernel_rfl) (by kernel_rfl) (by kernel_rfl) (fun _ _ _ h => h) (Or.inl ⟨by rfl, ?_⟩) (by assumption) ?_
        rotate_left
        focus ((intro w hSw; (try dsimp only at hSw); go_simp) <;> (try with_reducible rfl))
        try simp only [Act.put, List.setIfInBounds_toArray, List.set_cons_zero, List.set_cons_succ]
        refine wpAnyH_ready (rs := [18]) (by kernel_rfl) (by simp) ?_
        refine AllReadyH.cons (o := { dst := none, op := Op.store 22 (Operand.tmp 42) (Operand.tmp 41), type := 0, pos := "verify.go:338", after := #[{ on := 17, ground := Ground.data }, { on := 16, ground := Ground.data }, { on := 16, ground := Ground.chain }, { on := 0, ground := Ground.phase }, { on := 1, ground := Ground.phase }, { on := 2, ground := Ground.phase }, { on := 3, ground := Ground.phase }, { on := 4, ground := Ground.phase }, { on := 5, ground := Ground.phase }, { on := 6, ground := Ground.phase }, { on := 7, ground := Ground.phase }, { on := 8, ground := Ground.phase }, { on := 9, ground := Ground.phase }, { on := 10, ground := Ground.phase }, { on := 11, ground := Ground.phase }, { on := 12, ground := Ground.phase }, { on := 13, ground := Ground.phase }, { on := 14, ground := Ground.phase }, { on := 15, ground := Ground.phase }, { on := 16, ground := Ground.phase }], guard := none }) rfl (fun KQ hKQ => ?_) AllReadyH.nil
        go_simp
        refine hKQ.out _ _ (by (try dsimp only); go_keep) (fun hHeld => ?_)
        clear hKQ KQ
        try simp only [Act.put, List.setIfInBounds_toArray, List.set_cons_zero, List.set_cons_succ]
        refine wpAnyH_done (by kernel_rfl) ?_ _
        obtain ⟨hp1, hp2⟩ := HPUT.out _ _ _ _ (((Below.refl w3.heap.size w3).alloc (Nat.le_refl _) _).drew) HOW1.out HGR.out (by rcases HAT.out with h1 | h1; exact Or.inl h1; exact Or.inr (by rw [h1]; simp))
        have HP1 := Lib.hid hp1
        have HP2 := Lib.hid hp2
        clear hp1 hp2
        go_wp2_with fail
        go_roundw
        case rel => exact ⟨k + 1, { l2 with st := l2.st.set k ⟨some ⟨g, 0, none⟩, cap⟩ }, by omega, by go_num, HH, HP1, HP2⟩
        case measure => simp [intOf]; omega
    · have ek : stK s k = stS s := by
        unfold stS
        rw [HOK.out.st]
        congr
        omega
      rw [ek] at HTk
      have hEn : W.heap.size ∉ vs l2 := fun hm => by
        rcases HTk.out.n _ hm with h1 | h1
        · have := HM.out.hi _ h1; omega
        · omega
      have HT2 : Hid (Tk B W wr l l2 (stS s)) := Lib.hid (HT.out.step HTk.out.m HTk.out.v HTk.out.n HTk.out.M HTk.out.ex)
      have HMM := Lib.hid HT2.out.M
      have hltI : ¬ (k : Int) < (s.fs.length : Int) := by omega
      have hMl : l.M < W.heap.size := HM.out.hi _ (mvs l).1
      clear HT HTk ek hk HH
      have HEN := Lib.hid hEn
      clear hEn
      have HORD : Hid (∀ W', Mm B W' l2 (stS s) → Calls Tryz.prog 38 #[.pointer (some ⟨l.M, 0, none⟩), .int .i64 i, .agg #[.int .i64 x.tm, .int .i64 x.pr, .int .i64 x.ix, .int .i64 x.fi, .int .i64 x.at', .int .i64 x.bg, .int .i64 x.er, .int .i64 x.n, .string x.dat]] W' fun e w' => e = .returned (.bool (ordB (stS s) i x)) ∧ Mm B w' l2 (ordS (stS s) x) ∧ Vk (vs l2) W' w') := Lib.hid fun W' hm => by
        rw [← HMM.out]
        refine ordered_any B l2 (stS s) i x W' hm ?_ HOK.out.bg HOK.out.fin HOK.out.ns (fun p => ⟨(HOK.out.fb p).1, Int.le_trans (HOK.out.fb p).2 (by omega)⟩)
        have hx := HX.out
        unfold knB at hx
        by_cases hp : x.pr = -1
        · exact Or.inl hp
        · rw [if_neg hp] at hx
          have hx := of_decide_eq_true hx
          exact Or.inr ⟨x.pr.toNat, by omega, by show _ < s.scr.length; omega⟩
      go_upto_region 6 with (fail)
      obtain ⟨e0, e1, e2, e3, e4, e5, e6, e7, e8⟩ : wr.cell? ⟨W.heap.size, 0, none⟩ = some (.int .i64 x.tm) ∧ wr.cell? ⟨W.heap.size, 1, none⟩ = some (.int .i64 x.pr) ∧ wr.cell? ⟨W.heap.size, 2, none⟩ = some (.int .i64 x.ix) ∧ wr.cell? ⟨W.heap.size, 3, none⟩ = some (.int .i64 x.fi) ∧ wr.cell? ⟨W.heap.size, 4, none⟩ = some (.int .i64 x.at') ∧ wr.cell? ⟨W.heap.size, 5, none⟩ = some (.int .i64 x.bg) ∧ wr.cell? ⟨W.heap.size, 6, none⟩ = some (.int .i64 x.er) ∧ wr.cell? ⟨W.heap.size, 7, none⟩ = some (.int .i64 x.n) ∧ wr.cell? ⟨W.heap.size, 8, none⟩ = some (.string x.dat) := ⟨HEr.out.cell 0 _ rfl, HEr.out.cell 1 _ rfl, HEr.out.cell 2 _ rfl, HEr.out.cell 3 _ rfl, HEr.out.cell 4 _ rfl, HEr.out.cell 5 _ rfl, HEr.out.cell 6 _ rfl, HEr.out.cell 7 _ rfl, HEr.out.cell 8 _ rfl⟩
      go_wp2_with fail
      refine (HORD.out _ HT2.out.m).mono ?_
      rintro e w3 ⟨rfl, hm3, hv3⟩
      have HT3 := Lib.hid (HT2.out.same hm3 hv3)
      have HE3 := Lib.hid (Tk.at HEr.out hv3 HEN.out)
      clear hm3 hv3 e0 e1 e2 e3 e4 e5 e6 e7 e8 HT2 HEr HORD
      have e1 := HE3.out.cell 1 (.int .i64 x.pr) rfl
      generalize hok : ordB (stS s) i x = okB at *
      have HOB := Lib.hid hok
      clear hok
      go_upto_if 50 with (fail)
      by_cases hp : x.pr = -1
      · have hd : (x.pr == -1) = true := by simp [hp]
        rw [hd]
        obtain ⟨f, hf, hfl⟩ : ∃ f : Nat, x.fi = (f : Int) ∧ f < s.fs.length := by
          have hx := HX.out
          unfold knB at hx
          rw [if_pos hp] at hx
          have hx := of_decide_eq_true hx
          exact ⟨x.fi.toNat, by omega, by omega⟩
        have HF := Lib.hid hf
        have HP := Lib.hid hp
        clear hf hp hd e1
        go_upto_region 9 with (fail)
        have h3f : (ordS (stS s) x).fs = s.fs := by unfold ordS; split <;> rfl
        have h3a : (ordS (stS s) x).fa = s.fa := by unfold ordS; split <;> rfl
        have h3l : (ordS (stS s) x).la = s.la := by unfold ordS; split <;> rfl
        have hff : (ordS (stS s) x).fs.length = s.fs.length := by rw [h3f]
        have hfI : (f : Int) < (s.fs.length : Int) := by omega
        have HS3 : Hid (failS (ordS (stS s) x) x = { ordS (stS s) x with fa := (ordS (stS s) x).fa.set f (min (s.fa.getD f 0 + 1) 1000000), la := (ordS (stS s) x).la.set f x.er }) := Lib.hid (by unfold failS; rw [HF.out, Int.toNat_natCast, h3a])
        have HT4 := Lib.hid (HT3.out.below (Below.refl w3.heap.size w3).drew)
        have HE4 := Lib.hid (Des.At.drew HE3.out)
        have hfb := HOK.out.fab f
        have mA : w3.drew.cell? ⟨l.M, 22, none⟩ = some (.slice (some ⟨l2.A, 0, none⟩) s.fs.length s.fs.length) := by rw [← HMM.out, ← hff]; exact HT4.out.m.cA
        have a0 : w3.drew.cell? ⟨l2.A, f, none⟩ = some (.int .i64 (s.fa.getD f 0)) := by
          have := HT4.out.m.a.cell f _ (Des.ints_at _ f (by rw [h3a, HOK.out.fa]; exact hfl))
          rw [h3a] at this
          exact this
        have a1 : w3.drew.frozen? ⟨l2.A, f, none⟩ = false := HT4.out.m.a.free f (by rw [h3a]; simp [ints, HOK.out.fa]; exact hfl)
        have e3 := HE4.out.cell 3 (.int .i64 (f : Int)) (by rw [← HF.out]; rfl)
        have ymA : w3.cell? ⟨l.M, 22, none⟩ = some (.slice (some ⟨l2.A, 0, none⟩) s.fs.length s.fs.length) := by rw [← HMM.out, ← hff]; exact HT3.out.m.cA
        have ya0 : w3.cell? ⟨l2.A, f, none⟩ = some (.int .i64 (s.fa.getD f 0)) := by
          have := HT3.out.m.a.cell f _ (Des.ints_at _ f (by rw [h3a, HOK.out.fa]; exact hfl))
          rw [h3a] at this
          exact this
        have ya1 : w3.frozen? ⟨l2.A, f, none⟩ = false := HT3.out.m.a.free f (by rw [h3a]; simp [ints, HOK.out.fa]; exact hfl)
        have ye3 := HE3.out.cell 3 (.int .i64 (f : Int)) (by rw [← HF.out]; rfl)
        have a2 : l2.A < w3.drew.heap.size := HT4.out.m.a.hi
        have ya2 : l2.A < w3.heap.size := HT3.out.m.a.hi
        have hwr : IntKind.i64.wrap (s.fa.getD f 0 + 1) = s.fa.getD f 0 + 1 := IntWalk.i64_in _ (by omega)
        generalize s.fa.getD f 0 = fv at *
        have q1 : ¬ l2.A = l.M := by rw [← HMM.out]; exact HT4.out.m.ne.1.2.1.symm
        have q2 : ¬ l.M = l2.A := fun e => q1 e.symm
        have q3 : ¬ l2.A = W.heap.size := fun e => HEN.out (by rw [← e]; exact (mvs l2).2.2.1)
        have q4 : ¬ W.heap.size = l2.A := fun e => q3 e.symm
        clear h3f h3a h3l hff
        refine wp_region_held_drew (S := fun w' => w'.cell? ⟨l.M, 22, none⟩ = some (.slice (some ⟨l2.A, 0, none⟩) s.fs.length s.fs.length) ∧ w'.cell? ⟨W.heap.size, 3, none⟩ = some (.int .i64 (f : Int))) (by kernel_rfl) (by (try dsimp only); go_keep) (fun hHeld => ?_)
        refine wpAnyH_take (i := 0) (oi := { dst := some 51, op := Op.move (Operand.tmp 0), type := 76, pos := "verify.go:343", after := #[], guard := none }) (v := ?_) rfl (by kernel_rfl) (by kernel_rfl) (by kernel_rfl) (fun _ _ _ h => h) (Or.inl ⟨by rfl, ?_⟩) (by assumption) ?_
        rotate_left
        focus ((intro w hSw; (try dsimp only at hSw); go_simp) <;> (try with_reducible rfl))
        try simp only [Act.put, List.setIfInBounds_toArray, List.set_cons_zero, List.set_cons_succ]
        refine wpAnyH_take (i := 1) (oi := { dst := some 52, op := Op.nilCheck (Operand.tmp 51), type := 0, pos := "verify.go:343", after := #[{ on := 0, ground := Ground.data }], guard := none }) (v := ?_) rfl (by kernel_rfl) (by kernel_rfl) (by kernel_rfl) (fun _ _ _ h => h) (Or.inl ⟨by rfl, ?_⟩) (by assumption) ?_
        rotate_left
        focus ((intro w hSw; (try dsimp only at hSw); go_simp) <;> (try with_reducible rfl))
        try simp only [Act.put, List.setIfInBounds_toArray, List.set_cons_zero, List.set_cons_succ]
        refine wpAnyH_take (i := 2) (oi := { dst := some 53, op := Op.fieldAddr 86 (Operand.tmp 52) 2, type := 0, pos := "verify.go:343", after := #[{ on := 1, ground := Ground.data }], guard := none }) (v := ?_) rfl (by kernel_rfl) (by kernel_rfl) (by kernel_rfl) (fun _ _ _ h => h) (Or.inl ⟨by rfl, ?_⟩) (by assumption) ?_
        rotate_left
        focus ((intro w hSw; (try dsimp only at hSw); go_simp) <;> (try with_reducible rfl))
        try simp only [Act.put, List.setIfInBounds_toArray, List.set_cons_zero, List.set_cons_succ]
        refine wpAnyH_take (i := 3) (oi := { dst := some 54, op := Op.load 22 (Operand.tmp 53), type := 22, pos := "verify.go:343", after := #[{ on := 2, ground := Ground.data }], guard := none }) (v := ?_) rfl (by kernel_rfl) (by kernel_rfl) (by kernel_rfl) (fun _ _ _ h => h) (Or.inl ⟨by rfl, ?_⟩) (by assumption) ?_
        rotate_left
        focus ((intro w hSw; (try dsimp only at hSw); go_simp) <;> (try with_reducible rfl))
        try simp only [Act.put, List.setIfInBounds_toArray, List.set_cons_zero, List.set_cons_succ]
        refine wpAnyH_take (i := 4) (oi := { dst := some 55, op := Op.fieldAddr 64 (Operand.tmp 5) 3, type := 0, pos := "verify.go:343", after := #[], guard := none }) (v := ?_) rfl (by kernel_rfl) (by kernel_rfl) (by kernel_rfl) (fun _ _ _ h => h) (Or.inl ⟨by rfl, ?_⟩) (by assumption) ?_
        rotate_left
        focus ((intro w hSw; (try dsimp only at hSw); go_simp) <;> (try with_reducible rfl))
        try simp only [Act.put, List.setIfInBounds_toArray, List.set_cons_zero, List.set_cons_succ]
        refine wpAnyH_take (i := 5) (oi := { dst := some 56, op := Op.load 3 (Operand.tmp 55), type := 3, pos := "verify.go:343", after := #[{ on := 4, ground := Ground.data }], guard := none }) (v := ?_) rfl (by kernel_rfl) (by kernel_rfl) (by kernel_rfl) (fun _ _ _ h => h) (Or.inl ⟨by rfl, ?_⟩) (by assumption) ?_
        rotate_left
        focus ((intro w hSw; (try dsimp only at hSw); go_simp) <;> (try with_reducible rfl))
        try simp only [Act.put, List.setIfInBounds_toArray, List.set_cons_zero, List.set_cons_succ]
        refine wpAnyH_take (i := 6) (oi := { dst := some 57, op := Op.move (Operand.tmp 0), type := 76, pos := "verify.go:343", after := #[], guard := none }) (v := ?_) rfl (by kernel_rfl) (by kernel_rfl) (by kernel_rfl) (fun _ _ _ h => h) (Or.inl ⟨by rfl, ?_⟩) (by assumption) ?_
        rotate_left
        focus ((intro w hSw; (try dsimp only at hSw); go_simp) <;> (try with_reducible rfl))
        try simp only [Act.put, List.setIfInBounds_toArray, List.set_cons_zero, List.set_cons_succ]
        refine wpAnyH_take (i := 7) (oi := { dst := some 58, op := Op.nilCheck (Operand.tmp 57), type := 0, pos := "verify.go:343", after := #[{ on := 6, ground := Ground.data }], guard := none }) (v := ?_) rfl (by kernel_rfl) (by kernel_rfl) (by kernel_rfl) (fun _ _ _ h => h) (Or.inl ⟨by rfl, ?_⟩) (by assumption) ?_
        rotate_left
        focus ((intro w hSw; (try dsimp only at hSw); go_simp) <;> (try with_reducible rfl))
        try simp only [Act.put, List.setIfInBounds_toArray, List.set_cons_zero, List.set_cons_succ]
        refine wpAnyH_take (i := 8) (oi := { dst := some 59, op := Op.fieldAddr 86 (Operand.tmp 58) 2, type := 0, pos := "verify.go:343", after := #[{ on := 7, ground := Ground.data }], guard := none }) (v := ?_) rfl (by kernel_rfl) (by kernel_rfl) (by kernel_rfl) (fun _ _ _ h => h) (Or.inl ⟨by rfl, ?_⟩) (by assumption) ?_
        rotate_left
        focus ((intro w hSw; (try dsimp only at hSw); go_simp) <;> (try with_reducible rfl))
        try simp only [Act.put, List.setIfInBounds_toArray, List.set_cons_zero, List.set_cons_succ]
        refine wpAnyH_take (i := 9) (oi := { dst := some 60, op := Op.load 22 (Operand.tmp 59), type := 22, pos := "verify.go:343", after := #[{ on := 8, ground := Ground.data }], guard := none }) (v := ?_) rfl (by kernel_rfl) (by kernel_rfl) (by kernel_rfl) (fun _ _ _ h => h) (Or.inl ⟨by rfl, ?_⟩) (by assumption) ?_
        rotate_left
        focus ((intro w hSw; (try dsimp only at hSw); go_simp) <;> (try with_reducible rfl))
        try simp only [Act.put, List.setIfInBounds_toArray, List.set_cons_zero, List.set_cons_succ]
        refine wpAnyH_take (i := 10) (oi := { dst := some 61, op := Op.fieldAddr 64 (Operand.tmp 5) 3, type := 0, pos := "verify.go:343", after := #[], guard := none }) (v := ?_) rfl (by kernel_rfl) (by kernel_rfl) (by kernel_rfl) (fun _ _ _ h => h) (Or.inl ⟨by rfl, ?_⟩) (by assumption) ?_
        rotate_left
        focus ((intro w hSw; (try dsimp only at hSw); go_simp) <;> (try with_reducible rfl))
        try simp only [Act.put, List.setIfInBounds_toArray, List.set_cons_zero, List.set_cons_succ]
        refine wpAnyH_take (i := 11) (oi := { dst := some 62, op := Op.load 3 (Operand.tmp 61), type := 3, pos := "verify.go:343", after := #[{ on := 10, ground := Ground.data }], guard := none }) (v := ?_) rfl (by kernel_rfl) (by kernel_rfl) (by kernel_rfl) (fun _ _ _ h => h) (Or.inl ⟨by rfl, ?_⟩) (by assumption) ?_
        rotate_left
        focus ((intro w hSw; (try dsimp only at hSw); go_simp) <;> (try with_reducible rfl))
        try simp only [Act.put, List.setIfInBounds_toArray, List.set_cons_zero, List.set_cons_succ]
        refine wpAnyH_take (i := 12) (oi := { dst := some 63, op := Op.indexAddr 22 (Operand.tmp 60) (Operand.tmp 62), type := 0, pos := "verify.go:343", after := #[{ on := 9, ground := Ground.data }, { on := 11, ground := Ground.data }], guard := none }) (v := ?_) rfl (by kernel_rfl) (by kernel_rfl) (by kernel_rfl) (fun _ _ _ h => h) (Or.inl ⟨by rfl, ?_⟩) (by assumption) ?_
        rotate_left
        focus ((intro w hSw; (try dsimp only at hSw); go_simp) <;> (try with_reducible rfl))
        try simp only [Act.put, List.setIfInBounds_toArray, List.set_cons_zero, List.set_cons_succ]
        refine wpAnyH_ready (rs := [13]) (by kernel_rfl) (by simp) ?_
        refine AllReadyH.cons (o := { dst := some 64, op := Op.load 3 (Operand.tmp 63), type := 3, pos := "verify.go:343", after := #[{ on := 12, ground := Ground.data }], guard := none }) rfl (fun KQ hKQ => ?_) AllReadyH.nil
        go_simp
        refine hKQ.out _ _ (by (try dsimp only); go_keep) (fun hHeld => ?_)
        clear hKQ KQ
        try simp only [Act.put, List.setIfInBounds_toArray, List.set_cons_zero, List.set_cons_succ]
        refine wpAnyH_take (i := 14) (oi := { dst := some 65, op := Op.binOp BinOp.add 3 (Operand.tmp 64) (Operand.const (Value.int IntKind.i64 1)) 3, type := 3, pos := "verify.go:343", after := #[{ on := 13, ground := Ground.data }], guard := none }) (v := ?_) rfl (by kernel_rfl) (by kernel_rfl) (by kernel_rfl) (fun _ _ _ h => h) (Or.inl ⟨by rfl, ?_⟩) (by assumption) ?_
        rotate_left
        focus ((intro w hSw; (try dsimp only at hSw); go_simp) <;> (try with_reducible rfl))
        try simp only [Act.put, List.setIfInBounds_toArray, List.set_cons_zero, List.set_cons_succ]
        refine wpAnyH_take (i := 15) (oi := { dst := some 66, op := Op.call { callee := Callee.builtin Builtin.min, args := #[Operand.tmp 65, Operand.const (Value.int IntKind.i64 1000000)], argTypes := #[3, 3] }, type := 3, pos := "verify.go:343", after := #[{ on := 14, ground := Ground.data }], guard := none }) (v := ?_) rfl (by kernel_rfl) (by kernel_rfl) (by kernel_rfl) (fun _ _ _ h => h) (Or.inl ⟨by rfl, ?_⟩) (by assumption) ?_
        rotate_left
        focus ((intro w hSw; (try dsimp only at hSw); go_simp) <;> (try with_reducible rfl))
        try simp only [Act.put, List.setIfInBounds_toArray, List.set_cons_zero, List.set_cons_succ]
        refine wpAnyH_take (i := 16) (oi := { dst := some 67, op := Op.indexAddr 22 (Operand.tmp 54) (Operand.tmp 56), type := 0, pos := "verify.go:343", after := #[{ on := 3, ground := Ground.data }, { on := 5, ground := Ground.data }, { on := 0, ground := Ground.phase }, { on := 1, ground := Ground.phase }, { on := 2, ground := Ground.phase }, { on := 3, ground := Ground.phase }, { on := 4, ground := Ground.phase }, { on := 5, ground := Ground.phase }, { on := 6, ground := Ground.phase }, { on := 7, ground := Ground.phase }, { on := 8, ground := Ground.phase }, { on := 9, ground := Ground.phase }, { on := 10, ground := Ground.phase }, { on := 11, ground := Ground.phase }, { on := 12, ground := Ground.phase }, { on := 13, ground := Ground.phase }, { on := 14, ground := Ground.phase }, { on := 15, ground := Ground.phase }], guard := none }) (v := ?_) rfl (by kernel_rfl) (by kernel_rfl) (by kernel_rfl) (fun _ _ _ h => h) (Or.inl ⟨by rfl, ?_⟩) (by assumption) ?_
        rotate_left
        focus ((intro w hSw; (try dsimp only at hSw); go_simp) <;> (try with_reducible rfl))
        try simp only [Act.put, List.setIfInBounds_toArray, List.set_cons_zero, List.set_cons_succ]
        refine wpAnyH_ready (rs := [17]) (by kernel_rfl) (by simp) ?_
        refine AllReadyH.cons (o := { dst := none, op := Op.store 3 (Operand.tmp 67) (Operand.tmp 66), type := 0, pos := "verify.go:343", after := #[{ on := 16, ground := Ground.data }, { on := 15, ground := Ground.data }, { on := 0, ground := Ground.phase }, { on := 1, ground := Ground.phase }, { on := 2, ground := Ground.phase }, { on := 3, ground := Ground.phase }, { on := 4, ground := Ground.phase }, { on := 5, ground := Ground.phase }, { on := 6, ground := Ground.phase }, { on := 7, ground := Ground.phase }, { on := 8, ground := Ground.phase }, { on := 9, ground := Ground.phase }, { on := 10, ground := Ground.phase }, { on := 11, ground := Ground.phase }, { on := 12, ground := Ground.phase }, { on := 13, ground := Ground.phase }, { on := 14, ground := Ground.phase }, { on := 15, ground := Ground.phase }], guard := none }) rfl (fun KQ hKQ => ?_) AllReadyH.nil
        go_simp
        refine hKQ.out _ _ (by (try dsimp only); go_keep) (fun hHeld => ?_)
        clear hKQ KQ
        try simp only [Act.put, List.setIfInBounds_toArray, List.set_cons_zero, List.set_cons_succ]
        refine wpAnyH_done (by kernel_rfl) ?_ _
        generalize hw4 : w3.setCell { block := l2.A, off := f } (Value.int IntKind.i64 (min (fv + 1) 1000000)) = w4 at *
        have HT5 : Hid (Tk B W w4 l l2 { ordS (stS s) x with fa := (ordS (stS s) x).fa.set f (min (fv + 1) 1000000) }) := Lib.hid (by rw [← hw4]; exact HT3.out.same (HT3.out.m.putA f _) (Vk.set _ _ _ _ (mvs l2).2.2.1))
        have HE5 : Hid (At w4 W.heap.size x.cells) := Lib.hid (by rw [← hw4]; exact HE3.out.setOther (x := ⟨l2.A, f, none⟩) (fun e => q3 e.symm) _)
        clear hw4 hHeld mA a0 a1 e3 ymA ya0 ya1 ye3 a2 ya2 HT3 HE3 HT4 HE4 q1 q2 q3 q4 hwr
        replace HT5 : Hid (Tk B W w4.drew l l2 { ordS (stS s) x with fa := (ordS (stS s) x).fa.set f (min (fv + 1) 1000000) }) := Lib.hid (HT5.out.below (Below.refl w4.heap.size w4).drew)
        replace HE5 : Hid (At w4.drew W.heap.size x.cells) := Lib.hid (Des.At.drew HE5.out)
        generalize w4.drew = w5 at *
        go_upto_region 10 with (fail)
        have hff : (ordS (stS s) x).fs.length = s.fs.length := by unfold ordS; split <;> rfl
        have hll : (ordS (stS s) x).la.length = s.fs.length := by rw [← HOK.out.la]; unfold ordS; split <;> rfl
        have HT6 := Lib.hid (HT5.out.below (Below.refl w5.heap.size w5).drew)
        have HE6 := Lib.hid (Des.At.drew HE5.out)
        have mL : w5.drew.cell? ⟨l.M, 23, none⟩ = some (.slice (some ⟨l2.L, 0, none⟩) s.fs.length s.fs.length) := by rw [← HMM.out, ← hff]; exact HT6.out.m.cL
        have ymL : w5.cell? ⟨l.M, 23, none⟩ = some (.slice (some ⟨l2.L, 0, none⟩) s.fs.length s.fs.length) := by rw [← HMM.out, ← hff]; exact HT5.out.m.cL
        have a1 : w5.drew.frozen? ⟨l2.L, f, none⟩ = false := HT6.out.m.la.free f (by simp [ints]; rw [hll]; exact hfl)
        have ya1 : w5.frozen? ⟨l2.L, f, none⟩ = false := HT5.out.m.la.free f (by simp [ints]; rw [hll]; exact hfl)
        have e3 := HE6.out.cell 3 (.int .i64 (f : Int)) (by rw [← HF.out]; rfl)
        have ye3 := HE5.out.cell 3 (.int .i64 (f : Int)) (by rw [← HF.out]; rfl)
        have e6 := HE6.out.cell 6 (.int .i64 x.er) rfl
        have ye6 := HE5.out.cell 6 (.int .i64 x.er) rfl
        have a0 : w5.drew.cell? ⟨l2.L, f, none⟩ = some (.int .i64 ((ordS (stS s) x).la.getD f 0)) := HT6.out.m.la.cell f _ (Des.ints_at _ f (by rw [hll]; exact hfl))
        have ya0 : w5.cell? ⟨l2.L, f, none⟩ = some (.int .i64 ((ordS (stS s) x).la.getD f 0)) := HT5.out.m.la.cell f _ (Des.ints_at _ f (by rw [hll]; exact hfl))
        generalize (ordS (stS s) x).la.getD f 0 = lv at a0 ya0
        have a2 : l2.L < w5.drew.heap.size := HT6.out.m.la.hi
        have ya2 : l2.L < w5.heap.size := HT5.out.m.la.hi
        have q1 : ¬ l2.L = l.M := by rw [← HMM.out]; exact HT5.out.m.ne.1.2.2.1.symm
        have q2 : ¬ l.M = l2.L := fun e => q1 e.symm
        have q3 : ¬ l2.L = W.heap.size := fun e => HEN.out (by rw [← e]; exact (mvs l2).2.2.2.1)
        have q4 : ¬ W.heap.size = l2.L := fun e => q3 e.symm
        clear hff hll
        refine wp_region_held_drew (S := fun w' => w'.cell? ⟨l.M, 23, none⟩ = some (.slice (some ⟨l2.L, 0, none⟩) s.fs.length s.fs.length) ∧ w'.cell? ⟨W.heap.size, 3, none⟩ = some (.int .i64 (f : Int)) ∧ w'.cell? ⟨W.heap.size, 6, none⟩ = some (.int .i64 x.er)) (by kernel_rfl) (by (try dsimp only); go_keep) (fun hHeld => ?_)
        refine wpAnyH_take (i := 0) (oi := { dst := some 68, op := Op.move (Operand.tmp 0), type := 76, pos := "verify.go:344", after := #[], guard := none }) (v := ?_) rfl (by kernel_rfl) (by kernel_rfl) (by kernel_rfl) (fun _ _ _ h => h) (Or.inl ⟨by rfl, ?_⟩) (by assumption) ?_
        rotate_left
        focus ((intro w hSw; (try dsimp only at hSw); go_simp) <;> (try with_reducible rfl))
        try simp only [Act.put, List.setIfInBounds_toArray, List.set_cons_zero, List.set_cons_succ]
        refine wpAnyH_take (i := 1) (oi := { dst := some 69, op := Op.nilCheck (Operand.tmp 68), type := 0, pos := "verify.go:344", after := #[{ on := 0, ground := Ground.data }], guard := none }) (v := ?_) rfl (by kernel_rfl) (by kernel_rfl) (by kernel_rfl) (fun _ _ _ h => h) (Or.inl ⟨by rfl, ?_⟩) (by assumption) ?_
        rotate_left
        focus ((intro w hSw; (try dsimp only at hSw); go_simp) <;> (try with_reducible rfl))
        try simp only [Act.put, List.setIfInBounds_toArray, List.set_cons_zero, List.set_cons_succ]
        refine wpAnyH_take (i := 2) (oi := { dst := some 70, op := Op.fieldAddr 86 (Operand.tmp 69) 3, type := 0, pos := "verify.go:344", after := #[{ on := 1, ground := Ground.data }], guard := none }) (v := ?_) rfl (by kernel_rfl) (by kernel_rfl) (by kernel_rfl) (fun _ _ _ h => h) (Or.inl ⟨by rfl, ?_⟩) (by assumption) ?_
        rotate_left
        focus ((intro w hSw; (try dsimp only at hSw); go_simp) <;> (try with_reducible rfl))
        try simp only [Act.put, List.setIfInBounds_toArray, List.set_cons_zero, List.set_cons_succ]
        refine wpAnyH_take (i := 3) (oi := { dst := some 71, op := Op.load 79 (Operand.tmp 70), type := 79, pos := "verify.go:344", after := #[{ on := 2, ground := Ground.data }], guard := none }) (v := ?_) rfl (by kernel_rfl) (by kernel_rfl) (by kernel_rfl) (fun _ _ _ h => h) (Or.inl ⟨by rfl, ?_⟩) (by assumption) ?_
        rotate_left
        focus ((intro w hSw; (try dsimp only at hSw); go_simp) <;> (try with_reducible rfl))
        try simp only [Act.put, List.setIfInBounds_toArray, List.set_cons_zero, List.set_cons_succ]
        refine wpAnyH_take (i := 4) (oi := { dst := some 72, op := Op.fieldAddr 64 (Operand.tmp 5) 3, type := 0, pos := "verify.go:344", after := #[], guard := none }) (v := ?_) rfl (by kernel_rfl) (by kernel_rfl) (by kernel_rfl) (fun _ _ _ h => h) (Or.inl ⟨by rfl, ?_⟩) (by assumption) ?_
        rotate_left
        focus ((intro w hSw; (try dsimp only at hSw); go_simp) <;> (try with_reducible rfl))
        try simp only [Act.put, List.setIfInBounds_toArray, List.set_cons_zero, List.set_cons_succ]
        refine wpAnyH_take (i := 5) (oi := { dst := some 73, op := Op.load 3 (Operand.tmp 72), type := 3, pos := "verify.go:344", after := #[{ on := 4, ground := Ground.data }], guard := none }) (v := ?_) rfl (by kernel_rfl) (by kernel_rfl) (by kernel_rfl) (fun _ _ _ h => h) (Or.inl ⟨by rfl, ?_⟩) (by assumption) ?_
        rotate_left
        focus ((intro w hSw; (try dsimp only at hSw); go_simp) <;> (try with_reducible rfl))
        try simp only [Act.put, List.setIfInBounds_toArray, List.set_cons_zero, List.set_cons_succ]
        refine wpAnyH_take (i := 6) (oi := { dst := some 74, op := Op.fieldAddr 64 (Operand.tmp 5) 6, type := 0, pos := "verify.go:344", after := #[], guard := none }) (v := ?_) rfl (by kernel_rfl) (by kernel_rfl) (by kernel_rfl) (fun _ _ _ h => h) (Or.inl ⟨by rfl, ?_⟩) (by assumption) ?_
        rotate_left
        focus ((intro w hSw; (try dsimp only at hSw); go_simp) <;> (try with_reducible rfl))
        try simp only [Act.put, List.setIfInBounds_toArray, List.set_cons_zero, List.set_cons_succ]
        refine wpAnyH_take (i := 7) (oi := { dst := some 75, op := Op.fieldAddr 62 (Operand.tmp 74) 0, type := 0, pos := "verify.go:344", after := #[{ on := 6, ground := Ground.data }], guard := none }) (v := ?_) rfl (by kernel_rfl) (by kernel_rfl) (by kernel_rfl) (fun _ _ _ h => h) (Or.inl ⟨by rfl, ?_⟩) (by assumption) ?_
        rotate_left
        focus ((intro w hSw; (try dsimp only at hSw); go_simp) <;> (try with_reducible rfl))
        try simp only [Act.put, List.setIfInBounds_toArray, List.set_cons_zero, List.set_cons_succ]
        refine wpAnyH_take (i := 8) (oi := { dst := some 76, op := Op.load 51 (Operand.tmp 75), type := 51, pos := "verify.go:344", after := #[{ on := 7, ground := Ground.data }], guard := none }) (v := ?_) rfl (by kernel_rfl) (by kernel_rfl) (by kernel_rfl) (fun _ _ _ h => h) (Or.inl ⟨by rfl, ?_⟩) (by assumption) ?_
        rotate_left
        focus ((intro w hSw; (try dsimp only at hSw); go_simp) <;> (try with_reducible rfl))
        try simp only [Act.put, List.setIfInBounds_toArray, List.set_cons_zero, List.set_cons_succ]
        refine wpAnyH_take (i := 9) (oi := { dst := some 77, op := Op.indexAddr 79 (Operand.tmp 71) (Operand.tmp 73), type := 0, pos := "verify.go:344", after := #[{ on := 3, ground := Ground.data }, { on := 5, ground := Ground.data }, { on := 0, ground := Ground.phase }, { on := 1, ground := Ground.phase }, { on := 2, ground := Ground.phase }, { on := 3, ground := Ground.phase }, { on := 4, ground := Ground.phase }, { on := 5, ground := Ground.phase }, { on := 6, ground := Ground.phase }, { on := 7, ground := Ground.phase }, { on := 8, ground := Ground.phase }], guard := none }) (v := ?_) rfl (by kernel_rfl) (by kernel_rfl) (by kernel_rfl) (fun _ _ _ h => h) (Or.inl ⟨by rfl, ?_⟩) (by assumption) ?_
        rotate_left
        focus ((intro w hSw; (try dsimp only at hSw); go_simp) <;> (try with_reducible rfl))
        try simp only [Act.put, List.setIfInBounds_toArray, List.set_cons_zero, List.set_cons_succ]
        refine wpAnyH_ready (rs := [10]) (by kernel_rfl) (by simp) ?_
        refine AllReadyH.cons (o := { dst := none, op := Op.store 51 (Operand.tmp 77) (Operand.tmp 76), type := 0, pos := "verify.go:344", after := #[{ on := 9, ground := Ground.data }, { on := 8, ground := Ground.data }, { on := 0, ground := Ground.phase }, { on := 1, ground := Ground.phase }, { on := 2, ground := Ground.phase }, { on := 3, ground := Ground.phase }, { on := 4, ground := Ground.phase }, { on := 5, ground := Ground.phase }, { on := 6, ground := Ground.phase }, { on := 7, ground := Ground.phase }, { on := 8, ground := Ground.phase }], guard := none }) rfl (fun KQ hKQ => ?_) AllReadyH.nil
        go_simp
        refine hKQ.out _ _ (by (try dsimp only); go_keep) (fun hHeld => ?_)
        clear hKQ KQ
        try simp only [Act.put, List.setIfInBounds_toArray, List.set_cons_zero, List.set_cons_succ]
        refine wpAnyH_done (by kernel_rfl) ?_ _
        generalize hw6 : w5.setCell { block := l2.L, off := f } (Value.int IntKind.i64 x.er) = w6 at *
        have HT7 : Hid (Tk B W w6 l l2 (failS (ordS (stS s) x) x)) := Lib.hid (by rw [← hw6, HS3.out]; exact HT5.out.same (HT5.out.m.putL f _) (Vk.set _ _ _ _ (mvs l2).2.2.2.1))
        clear hw6
        have HTK : Hid (takeS s i x = (if okB = true then 0 else 4, failS (ordS (stS s) x) x)) := Lib.hid (by unfold takeS; rw [if_pos HP.out, HOB.out])
        cases okB with
        | true =>
          go_wp2_with fail
          exact bodyPost_ret (v := .int .i64 0) (by simp [results, Tryz.results25, go_sem]) rfl ⟨l2, by rw [HTK.out]; rfl, by rw [HTK.out]; exact HT7.out.below (Below.refl _ _).drew⟩
        | false =>
          go_wp2_with fail
          exact bodyPost_ret (v := .int .i64 4) (by simp [results, Tryz.results25, go_sem]) rfl ⟨l2, by rw [HTK.out]; rfl, by rw [HTK.out]; exact HT7.out.below (Below.refl _ _).drew⟩
      · have hd : (x.pr == -1) = false := by simp [hp]
        rw [hd]
        obtain ⟨p, n, hpp, hnn, hps, hns⟩ : ∃ p n : Nat, x.pr = (p : Int) ∧ x.ix = (n : Int) ∧ p < s.scr.length ∧ n < (s.scr.getD p []).length := by
          have hx := HX.out
          unfold knB at hx
          rw [if_neg hp] at hx
          obtain ⟨h1, h2, h3, h4⟩ := of_decide_eq_true hx
          exact ⟨x.pr.toNat, x.ix.toNat, by omega, by omega, by omega, by omega⟩
        have HTK0 : Hid (takeS s i x = (if okB = true then judgeV (opAt s p n).kd (planR (ordS (stS s) x) p (opAt s p n) x).1 (evRes x) else 4, if (opAt s p n).kd = 8 ∨ x.er = 0 then (planR (ordS (stS s) x) p (opAt s p n) x).2 else ordS (stS s) x)) := Lib.hid (by unfold takeS; rw [if_neg hp, HOB.out, hpp, hnn, Int.toNat_natCast, Int.toNat_natCast])
        have HPP := Lib.hid hpp
        have HNN := Lib.hid hnn
        have h3s : (ordS (stS s) x).scr = s.scr := by unfold ordS; split <;> rfl
        have HOKo := Lib.hid (HOK.out.ops p n hps hns)
        have HSC := Lib.hid HT3.out.m.im.sc
        rw [h3s] at HSC
        have HGO : Hid (∀ W', Below B w3 W' → ScIn B W' l2.sc s.scr) := Lib.hid fun W' hb => HSC.out.below hb
        obtain ⟨g, o1, c, c1, c2, c3, c4, c5⟩ := HSC.out
        obtain ⟨u, hu, g2, o2, k2, d1, d2, d3, d4, d5⟩ := c5 p hps
        have HD5 := Lib.hid (d5 n hns)
        subst d1
        have hgB : g < w3.heap.size := Nat.lt_of_lt_of_le c2 HT3.out.m.hB
        have hg2B : g2 < w3.heap.size := Nat.lt_of_lt_of_le d2 HT3.out.m.hB
        have mS : w3.cell? ⟨l.M, 19, none⟩ = some (.slice (some ⟨g, o1, none⟩) s.scr.length c) := by
          rw [← HMM.out, ← c1]
          exact HT3.out.m.m.cell 19 _ rfl
        have HHU := Lib.hid hu
        have e2 := HE3.out.cell 2 (.int .i64 (n : Int)) (by rw [← HNN.out]; rfl)
        clear e1
        have e1 := HE3.out.cell 1 (.int .i64 (p : Int)) (by rw [← HPP.out]; rfl)
        clear c5 d5 c1 hd hp h3s hpp hnn HSC
        have HOO : Hid (opAt s p n = (s.scr.getD p []).getD n Opr.zero) := Lib.hid rfl
        generalize hrl : (s.scr.getD p []).length = rl at *
        have HRL := Lib.hid hrl
        clear hrl
        rw [← HOO.out] at HD5 HOKo
        generalize opAt s p n = o at *
        have hpI : (p : Int) < (s.scr.length : Int) := by omega
        have hnI2 : (n : Int) < (rl : Int) := by omega
        have hns1 := HOK.out.ns
        go_upto_region 11 with (fail)
        obtain ⟨r0, r1, r2, r3, r4, r5, r6, r7, r8⟩ : w3.cell? ⟨g2, o2 + n * 9, none⟩ = some (.int .i64 o.kd) ∧ w3.cell? ⟨g2, o2 + n * 9 + 1, none⟩ = some (.int .i64 o.fd) ∧ w3.cell? ⟨g2, o2 + n * 9 + 2, none⟩ = some (.int .i64 o.fi) ∧ w3.cell? ⟨g2, o2 + n * 9 + 3, none⟩ = some (.int .i64 o.fl) ∧ w3.cell? ⟨g2, o2 + n * 9 + 4, none⟩ = some (.int .i64 o.off) ∧ w3.cell? ⟨g2, o2 + n * 9 + 5, none⟩ = some (.int .i64 o.len) ∧ w3.cell? ⟨g2, o2 + n * 9 + 6, none⟩ = some (.int .i64 o.pg) ∧ w3.cell? ⟨g2, o2 + n * 9 + 7, none⟩ = some (.string o.dat) ∧ w3.cell? ⟨g2, o2 + n * 9 + 8, none⟩ = some (.bool o.wr) := ⟨HD5.out.c 0 _ rfl, HD5.out.c 1 _ rfl, HD5.out.c 2 _ rfl, HD5.out.c 3 _ rfl, HD5.out.c 4 _ rfl, HD5.out.c 5 _ rfl, HD5.out.c 6 _ rfl, HD5.out.c 7 _ rfl, HD5.out.c 8 _ rfl⟩
        refine wp_region_held_drew (S := fun w' => w'.cell? ⟨l.M, 19, none⟩ = some (.slice (some ⟨g, o1, none⟩) s.scr.length c) ∧ w'.cell? ⟨g, o1 + p, none⟩ = some (.slice (some ⟨g2, o2, none⟩) rl k2) ∧ w'.cell? ⟨W.heap.size, 1, none⟩ = some (.int .i64 (p : Int)) ∧ w'.cell? ⟨W.heap.size, 2, none⟩ = some (.int .i64 (n : Int)) ∧ w'.cell? ⟨g2, o2 + n * 9, none⟩ = some (.int .i64 o.kd) ∧ w'.cell? ⟨g2, o2 + n * 9 + 1, none⟩ = some (.int .i64 o.fd) ∧ w'.cell? ⟨g2, o2 + n * 9 + 2, none⟩ = some (.int .i64 o.fi) ∧ w'.cell? ⟨g2, o2 + n * 9 + 3, none⟩ = some (.int .i64 o.fl) ∧ w'.cell? ⟨g2, o2 + n * 9 + 4, none⟩ = some (.int .i64 o.off) ∧ w'.cell? ⟨g2, o2 + n * 9 + 5, none⟩ = some (.int .i64 o.len) ∧ w'.cell? ⟨g2, o2 + n * 9 + 6, none⟩ = some (.int .i64 o.pg) ∧ w'.cell? ⟨g2, o2 + n * 9 + 7, none⟩ = some (.string o.dat) ∧ w'.cell? ⟨g2, o2 + n * 9 + 8, none⟩ = some (.bool o.wr)) (by kernel_rfl) (by (try dsimp only); go_keep) (fun hHeld => ?_)
        refine wpAnyH_take (i := 0) (oi := { dst := some 78, op := Op.move (Operand.tmp 0), type := 76, pos := "verify.go:346", after := #[], guard := none }) (v := ?_) rfl (by kernel_rfl) (by kernel_rfl) (by kernel_rfl) (fun _ _ _ h => h) (Or.inl ⟨by rfl, ?_⟩) (by assumption) ?_
        rotate_left
        focus ((intro w hSw; (try dsimp only at hSw); go_simp) <;> (try with_reducible rfl))
        try simp only [Act.put, List.setIfInBounds_toArray, List.set_cons_zero, List.set_cons_succ]
        refine wpAnyH_take (i := 1) (oi := { dst := some 79, op := Op.nilCheck (Operand.tmp 78), type := 0, pos := "verify.go:346", after := #[{ on := 0, ground := Ground.data }], guard := none }) (v := ?_) rfl (by kernel_rfl) (by kernel_rfl) (by kernel_rfl) (fun _ _ _ h => h) (Or.inl ⟨by rfl, ?_⟩) (by assumption) ?_
        rotate_left
        focus ((intro w hSw; (try dsimp only at hSw); go_simp) <;> (try with_reducible rfl))
        try simp only [Act.put, List.setIfInBounds_toArray, List.set_cons_zero, List.set_cons_succ]
        refine wpAnyH_take (i := 2) (oi := { dst := some 80, op := Op.fieldAddr 86 (Operand.tmp 79) 0, type := 0, pos := "verify.go:346", after := #[{ on := 1, ground := Ground.data }], guard := none }) (v := ?_) rfl (by kernel_rfl) (by kernel_rfl) (by kernel_rfl) (fun _ _ _ h => h) (Or.inl ⟨by rfl, ?_⟩) (by assumption) ?_
        rotate_left
        focus ((intro w hSw; (try dsimp only at hSw); go_simp) <;> (try with_reducible rfl))
        try simp only [Act.put, List.setIfInBounds_toArray, List.set_cons_zero, List.set_cons_succ]
        refine wpAnyH_take (i := 3) (oi := { dst := some 81, op := Op.fieldAddr 44 (Operand.tmp 80) 6, type := 0, pos := "verify.go:346", after := #[{ on := 2, ground := Ground.data }], guard := none }) (v := ?_) rfl (by kernel_rfl) (by kernel_rfl) (by kernel_rfl) (fun _ _ _ h => h) (Or.inl ⟨by rfl, ?_⟩) (by assumption) ?_
        rotate_left
        focus ((intro w hSw; (try dsimp only at hSw); go_simp) <;> (try with_reducible rfl))
        try simp only [Act.put, List.setIfInBounds_toArray, List.set_cons_zero, List.set_cons_succ]
        refine wpAnyH_take (i := 4) (oi := { dst := some 82, op := Op.load 29 (Operand.tmp 81), type := 29, pos := "verify.go:346", after := #[{ on := 3, ground := Ground.data }], guard := none }) (v := ?_) rfl (by kernel_rfl) (by kernel_rfl) (by kernel_rfl) (fun _ _ _ h => h) (Or.inl ⟨by rfl, ?_⟩) (by assumption) ?_
        rotate_left
        focus ((intro w hSw; (try dsimp only at hSw); go_simp) <;> (try with_reducible rfl))
        try simp only [Act.put, List.setIfInBounds_toArray, List.set_cons_zero, List.set_cons_succ]
        refine wpAnyH_take (i := 5) (oi := { dst := some 83, op := Op.fieldAddr 64 (Operand.tmp 5) 1, type := 0, pos := "verify.go:346", after := #[], guard := none }) (v := ?_) rfl (by kernel_rfl) (by kernel_rfl) (by kernel_rfl) (fun _ _ _ h => h) (Or.inl ⟨by rfl, ?_⟩) (by assumption) ?_
        rotate_left
        focus ((intro w hSw; (try dsimp only at hSw); go_simp) <;> (try with_reducible rfl))
        try simp only [Act.put, List.setIfInBounds_toArray, List.set_cons_zero, List.set_cons_succ]
        refine wpAnyH_take (i := 6) (oi := { dst := some 84, op := Op.load 3 (Operand.tmp 83), type := 3, pos := "verify.go:346", after := #[{ on := 5, ground := Ground.data }], guard := none }) (v := ?_) rfl (by kernel_rfl) (by kernel_rfl) (by kernel_rfl) (fun _ _ _ h => h) (Or.inl ⟨by rfl, ?_⟩) (by assumption) ?_
        rotate_left
        focus ((intro w hSw; (try dsimp only at hSw); go_simp) <;> (try with_reducible rfl))
        try simp only [Act.put, List.setIfInBounds_toArray, List.set_cons_zero, List.set_cons_succ]
        refine wpAnyH_take (i := 7) (oi := { dst := some 85, op := Op.indexAddr 29 (Operand.tmp 82) (Operand.tmp 84), type := 0, pos := "verify.go:346", after := #[{ on := 4, ground := Ground.data }, { on := 6, ground := Ground.data }], guard := none }) (v := ?_) rfl (by kernel_rfl) (by kernel_rfl) (by kernel_rfl) (fun _ _ _ h => h) (Or.inl ⟨by rfl, ?_⟩) (by assumption) ?_
        rotate_left
        focus ((intro w hSw; (try dsimp only at hSw); go_simp) <;> (try with_reducible rfl))
        try simp only [Act.put, List.setIfInBounds_toArray, List.set_cons_zero, List.set_cons_succ]
        refine wpAnyH_take (i := 8) (oi := { dst := some 86, op := Op.load 67 (Operand.tmp 85), type := 67, pos := "verify.go:346", after := #[{ on := 7, ground := Ground.data }], guard := none }) (v := ?_) rfl (by kernel_rfl) (by kernel_rfl) (by kernel_rfl) (fun _ _ _ h => h) (Or.inl ⟨by rfl, ?_⟩) (by assumption) ?_
        rotate_left
        focus ((intro w hSw; (try dsimp only at hSw); go_simp) <;> (try with_reducible rfl))
        try simp only [Act.put, List.setIfInBounds_toArray, List.set_cons_zero, List.set_cons_succ]
        refine wpAnyH_take (i := 9) (oi := { dst := some 87, op := Op.fieldAddr 64 (Operand.tmp 5) 2, type := 0, pos := "verify.go:346", after := #[], guard := none }) (v := ?_) rfl (by kernel_rfl) (by kernel_rfl) (by kernel_rfl) (fun _ _ _ h => h) (Or.inl ⟨by rfl, ?_⟩) (by assumption) ?_
        rotate_left
        focus ((intro w hSw; (try dsimp only at hSw); go_simp) <;> (try with_reducible rfl))
        try simp only [Act.put, List.setIfInBounds_toArray, List.set_cons_zero, List.set_cons_succ]
        refine wpAnyH_take (i := 10) (oi := { dst := some 88, op := Op.load 3 (Operand.tmp 87), type := 3, pos := "verify.go:346", after := #[{ on := 9, ground := Ground.data }], guard := none }) (v := ?_) rfl (by kernel_rfl) (by kernel_rfl) (by kernel_rfl) (fun _ _ _ h => h) (Or.inl ⟨by rfl, ?_⟩) (by assumption) ?_
        rotate_left
        focus ((intro w hSw; (try dsimp only at hSw); go_simp) <;> (try with_reducible rfl))
        try simp only [Act.put, List.setIfInBounds_toArray, List.set_cons_zero, List.set_cons_succ]
        refine wpAnyH_take (i := 11) (oi := { dst := some 89, op := Op.indexAddr 67 (Operand.tmp 86) (Operand.tmp 88), type := 0, pos := "verify.go:346", after := #[{ on := 8, ground := Ground.data }, { on := 10, ground := Ground.data }], guard := none }) (v := ?_) rfl (by kernel_rfl) (by kernel_rfl) (by kernel_rfl) (fun _ _ _ h => h) (Or.inl ⟨by rfl, ?_⟩) (by assumption) ?_
        rotate_left
        focus ((intro w hSw; (try dsimp only at hSw); go_simp) <;> (try with_reducible rfl))
        try simp only [Act.put, List.setIfInBounds_toArray, List.set_cons_zero, List.set_cons_succ]
        refine wpAnyH_take (i := 12) (oi := { dst := some 90, op := Op.load 66 (Operand.tmp 89), type := 66, pos := "verify.go:346", after := #[{ on := 11, ground := Ground.data }], guard := none }) (v := ?_) rfl (by kernel_rfl) (by kernel_rfl) (by kernel_rfl) (fun _ _ _ h => h) (Or.inl ⟨by rfl, ?_⟩) (by assumption) ?_
        rotate_left
        focus ((intro w hSw; (try dsimp only at hSw); go_simp) <;> (try with_reducible rfl))
        try simp only [Act.put, List.setIfInBounds_toArray, List.set_cons_zero, List.set_cons_succ]
        refine wpAnyH_ready (rs := [13]) (by kernel_rfl) (by simp) ?_
        refine AllReadyH.cons (o := { dst := some 11, op := Op.alloc 66, type := 0, pos := "verify.go:346", after := #[], guard := none }) rfl (fun KQ hKQ => ?_) AllReadyH.nil
        go_simp
        refine hKQ.out _ _ (by (try dsimp only); go_keep) (fun hHeld => ?_)
        clear hKQ KQ
        try simp only [Act.put, List.setIfInBounds_toArray, List.set_cons_zero, List.set_cons_succ]
        refine wpAnyH_ready (rs := [14]) (by kernel_rfl) (by simp) ?_
        refine AllReadyH.cons (o := { dst := none, op := Op.store 66 (Operand.tmp 11) (Operand.tmp 90), type := 0, pos := "verify.go:346", after := #[{ on := 13, ground := Ground.data }, { on := 12, ground := Ground.data }, { on := 0, ground := Ground.phase }, { on := 1, ground := Ground.phase }, { on := 2, ground := Ground.phase }, { on := 3, ground := Ground.phase }, { on := 4, ground := Ground.phase }, { on := 5, ground := Ground.phase }, { on := 6, ground := Ground.phase }, { on := 7, ground := Ground.phase }, { on := 8, ground := Ground.phase }, { on := 9, ground := Ground.phase }, { on := 10, ground := Ground.phase }, { on := 11, ground := Ground.phase }, { on := 12, ground := Ground.phase }, { on := 13, ground := Ground.phase }], guard := none }) rfl (fun KQ hKQ => ?_) AllReadyH.nil
        go_simp
        refine hKQ.out _ _ (by (try dsimp only); go_keep) (fun hHeld => ?_)
        clear hKQ KQ
        try simp only [Act.put, List.setIfInBounds_toArray, List.set_cons_zero, List.set_cons_succ]
        refine wpAnyH_done (by kernel_rfl) ?_ _
        have HO4 : Hid (At (w3.alloc (Obj.cells #[.int .i64 o.kd, .int .i64 o.fd, .int .i64 o.fi, .int .i64 o.fl, .int .i64 o.off, .int .i64 o.len, .int .i64 o.pg, .string o.dat, .bool o.wr] 66)) w3.heap.size o.cells) := Lib.hid (At.new w3 o.cells 66)
        have HT4 := Lib.hid (HT3.out.below ((Below.refl _ _).alloc (Nat.le_refl _) (Obj.cells #[.int .i64 o.kd, .int .i64 o.fd, .int .i64 o.fi, .int .i64 o.fl, .int .i64 o.off, .int .i64 o.len, .int .i64 o.pg, .string o.dat, .bool o.wr] 66)))
        have HE4 := Lib.hid (HE3.out.alloc (Obj.cells #[.int .i64 o.kd, .int .i64 o.fd, .int .i64 o.fi, .int .i64 o.fl, .int .i64 o.off, .int .i64 o.len, .int .i64 o.pg, .string o.dat, .bool o.wr] 66))
        have h34 : w3.heap.size < (w3.alloc (Obj.cells #[.int .i64 o.kd, .int .i64 o.fd, .int .i64 o.fi, .int .i64 o.fl, .int .i64 o.off, .int .i64 o.len, .int .i64 o.pg, .string o.dat, .bool o.wr] 66)).heap.size := HO4.out.hi
        have hK1 : w3.heap.size ∉ vs l2 := fun hm => by have := HT3.out.m.hi _ hm; omega
        have HK1 := Lib.hid hK1
        have hEK : W.heap.size < w3.heap.size := HE3.out.hi
        clear r0 r1 r2 r3 r4 r5 r6 r7 r8 hHeld e1 e2 mS HHU HD5 HGO hu hK1
        clear hgB hg2B c2 c3 c4 d2 d3 d4 HT3 HE3
        generalize w3.alloc (Obj.cells #[.int .i64 o.kd, .int .i64 o.fd, .int .i64 o.fi, .int .i64 o.fl, .int .i64 o.off, .int .i64 o.len, .int .i64 o.pg, .string o.dat, .bool o.wr] 66) = w4 at *
        replace HO4 := Lib.hid (Des.At.drew HO4.out)
        replace HT4 := Lib.hid (HT4.out.below (Below.refl w4.heap.size w4).drew)
        replace HE4 := Lib.hid (Des.At.drew HE4.out)
        rw [show w4.heap.size = w4.drew.heap.size from rfl] at h34
        generalize w4.drew = w5 at *
        generalize w3.heap.size = K1 at *
        go_upto_region 13 with (fail)
        have HTB := HT4
        have HB6 : Hid (Below w5.heap.size w5 (w5.alloc (Obj.cells #[.int .i64 0, .int .i64 0, .string ⟨#[]⟩, .nilFunc] 114))) := Lib.hid ((Below.refl _ _).alloc (Nat.le_refl _) _)
        have h35 : K1 < w5.heap.size := h34
        have hEK2 : W.heap.size < w5.heap.size := HE4.out.hi
        have HQ6 : Hid (At (w5.alloc (Obj.cells #[.int .i64 0, .int .i64 0, .string ⟨#[]⟩, .nilFunc] 114)) w5.heap.size [.int .i64 0, .int .i64 0, .string ⟨#[]⟩, .nilFunc]) := Lib.hid (At.new w5 [.int .i64 0, .int .i64 0, .string ⟨#[]⟩, .nilFunc] 114)
        have HT6 := Lib.hid (HT4.out.below ((Below.refl _ _).alloc (Nat.le_refl _) (Obj.cells #[.int .i64 0, .int .i64 0, .string ⟨#[]⟩, .nilFunc] 114)))
        have HE6 := Lib.hid (HE4.out.alloc (Obj.cells #[.int .i64 0, .int .i64 0, .string ⟨#[]⟩, .nilFunc] 114))
        have HO6 := Lib.hid (HO4.out.alloc (Obj.cells #[.int .i64 0, .int .i64 0, .string ⟨#[]⟩, .nilFunc] 114))
        have hK2 : w5.heap.size ∉ vs l2 := fun hm => by have := HT4.out.m.hi _ hm; omega
        have HK2 := Lib.hid hK2
        have h56 := HQ6.out.hi
        clear hK2 HT4 HE4 HO4
        generalize w5.alloc (Obj.cells #[.int .i64 0, .int .i64 0, .string ⟨#[]⟩, .nilFunc] 114) = w6 at *
        generalize hk2 : w5.heap.size = K2 at *
        have HK2E := Lib.hid hk2
        clear hk2
        obtain ⟨m, hm, hkm⟩ : ∃ m : Nat, m < 14 ∧ o.kd = (m : Int) + 1 := ⟨(o.kd - 1).toNat, by have := HOKo.out; omega, by have := HOKo.out; omega⟩
        have HKM := Lib.hid hkm
        clear hkm
        go_cut [13, 14] (fun s13 s14 wx => ∃ K3, s13 = .pointer (some ⟨K3, 0, none⟩) ∧ s14 = .bool true ∧ Hid (Nb w6 wx K3 [.func (.func (65 + m)) #[] #[]]))
        case first =>
          have k6 := HO6.out.cell 0 (.int .i64 o.kd) rfl
          have k6d : w6.drew.cell? ⟨K1, 0, none⟩ = some (.int .i64 o.kd) := k6
          have kh : K1 < w6.heap.size := HO6.out.hi
          have kn : ¬ K1 = w6.heap.size := by omega
          have kn2 : ¬ w6.heap.size = K1 := by omega
          refine wp_region_held_drew (S := fun w' => w'.cell? ⟨K1, 0, none⟩ = some (.int .i64 o.kd)) (by kernel_rfl) (by (try dsimp only); go_keep) (fun hHeld => ?_)
          refine wpAnyH_take (i := 1) (oi := { dst := some 94, op := Op.fieldAddr 66 (Operand.tmp 11) 0, type := 0, pos := "verify.go:348", after := #[], guard := none }) (v := ?_) rfl (by kernel_rfl) (by kernel_rfl) (by kernel_rfl) (fun _ _ _ h => h) (Or.inl ⟨by rfl, ?_⟩) (by assumption) ?_
          rotate_left
          focus ((intro w hSw; (try dsimp only at hSw); go_simp) <;> (try with_reducible rfl))
          try simp only [Act.put, List.setIfInBounds_toArray, List.set_cons_zero, List.set_cons_succ]
          refine wpAnyH_take (i := 2) (oi := { dst := some 95, op := Op.load 3 (Operand.tmp 94), type := 3, pos := "verify.go:348", after := #[{ on := 1, ground := Ground.data }], guard := none }) (v := ?_) rfl (by kernel_rfl) (by kernel_rfl) (by kernel_rfl) (fun _ _ _ h => h) (Or.inl ⟨by rfl, ?_⟩) (by assumption) ?_
          rotate_left
          focus ((intro w hSw; (try dsimp only at hSw); go_simp) <;> (try with_reducible rfl))
          try simp only [Act.put, List.setIfInBounds_toArray, List.set_cons_zero, List.set_cons_succ]
          refine wpAnyH_ready (rs := [0, 7]) (by kernel_rfl) (by simp) ?_
          refine AllReadyH.cons (o := { dst := some 93, op := Op.call { callee := Callee.value (Operand.func 39), args := #[], argTypes := #[] }, type := 119, pos := "verify.go:348", after := #[], guard := none }) rfl (fun KQ hKQ => ?_) (AllReadyH.cons (o := { dst := some 13, op := Op.alloc 117, type := 0, pos := "verify.go:348", after := #[], guard := none }) rfl (fun KQ hKQ => ?_) AllReadyH.nil)
          · go_simp
            refine (handlers_any _).mono ?_
            rintro e wh ⟨rfl, hb⟩
            obtain ⟨hm1, hb1⟩ := hand_after hb
            have HB := Lib.hid ((Below.refl w6.heap.size w6).drew.trans hb1)
            clear hb hb1
            rw [show w6.drew.heap.size = w6.heap.size from rfl] at hm1
            have L1 : (Instr.lookup 119 (.map (some (w6.heap.size))) (.int .i64 o.kd) true).run Tryz.prog wh = .ok (.tuple #[.agg #[.func (.func (65 + m)) #[] #[]], .bool true]) wh := hlook wh _ hm1 o.kd m HKM.out hm
            have L2 : (Instr.lookup 119 (.map (some (w6.heap.size))) (.int .i64 o.kd) true).run Tryz.prog (wh.alloc (Obj.cells #[.nilFunc] 117)) = .ok (.tuple #[.agg #[.func (.func (65 + m)) #[] #[]], .bool true]) (wh.alloc (Obj.cells #[.nilFunc] 117)) := hlook _ _ (hmap_alloc hm1 _) o.kd m HKM.out hm
            have HM1 := Lib.hid hm1
            clear hm1
            have k0 : wh.cell? ⟨K1, 0, none⟩ = some (.int .i64 o.kd) := (HB.out.cell (p := ⟨K1, 0, none⟩) HO6.out.hi).trans k6
            refine hKQ.out _ _ (by (try dsimp only); go_keep) (fun hHeld => ?_)
            clear hKQ KQ
            try simp only [Act.put, List.setIfInBounds_toArray, List.set_cons_zero, List.set_cons_succ]
            refine wpAnyH_ready (rs := [3, 7]) (by kernel_rfl) (by simp) ?_
            refine AllReadyH.cons (o := { dst := some 96, op := Op.lookup 119 (Operand.tmp 93) (Operand.tmp 95) true, type := 118, pos := "verify.go:348", after := #[{ on := 0, ground := Ground.data }, { on := 2, ground := Ground.data }], guard := none }) rfl (fun KQ hKQ => ?_) (AllReadyH.cons (o := { dst := some 13, op := Op.alloc 117, type := 0, pos := "verify.go:348", after := #[], guard := none }) rfl (fun KQ hKQ => ?_) AllReadyH.nil)
            · go_simp
              refine hKQ.out _ _ (by (try dsimp only); go_keep) (fun hHeld => ?_)
              clear hKQ KQ
              try simp only [Act.put, List.setIfInBounds_toArray, List.set_cons_zero, List.set_cons_succ]
              refine wpAnyH_take (i := 4) (oi := { dst := some 92, op := Op.move (Operand.tmp 96), type := 118, pos := "verify.go:348", after := #[{ on := 3, ground := Ground.data }], guard := none }) (v := ?_) rfl (by kernel_rfl) (by kernel_rfl) (by kernel_rfl) (fun _ _ _ h => h) (Or.inl ⟨by rfl, ?_⟩) (by assumption) ?_
              rotate_left
              focus ((intro w hSw; (try dsimp only at hSw); go_simp) <;> (try with_reducible rfl))
              try simp only [Act.put, List.setIfInBounds_toArray, List.set_cons_zero, List.set_cons_succ]
              refine wpAnyH_take (i := 5) (oi := { dst := some 97, op := Op.extract (Operand.tmp 92) 0, type := 117, pos := "verify.go:348", after := #[{ on := 4, ground := Ground.data }], guard := none }) (v := ?_) rfl (by kernel_rfl) (by kernel_rfl) (by kernel_rfl) (fun _ _ _ h => h) (Or.inl ⟨by rfl, ?_⟩) (by assumption) ?_
              rotate_left
              focus ((intro w hSw; (try dsimp only at hSw); go_simp) <;> (try with_reducible rfl))
              try simp only [Act.put, List.setIfInBounds_toArray, List.set_cons_zero, List.set_cons_succ]
              refine wpAnyH_take (i := 6) (oi := { dst := some 98, op := Op.extract (Operand.tmp 92) 1, type := 4, pos := "verify.go:348", after := #[{ on := 4, ground := Ground.data }, { on := 8, ground := Ground.gcOnly Departure.lateStores }], guard := none }) (v := ?_) rfl (by kernel_rfl) (by kernel_rfl) (by kernel_rfl) (fun _ _ _ h => h) (Or.inl ⟨by rfl, ?_⟩) (by assumption) ?_
              rotate_left
              focus ((intro w hSw; (try dsimp only at hSw); go_simp) <;> (try with_reducible rfl))
              try simp only [Act.put, List.setIfInBounds_toArray, List.set_cons_zero, List.set_cons_succ]
              refine wpAnyH_ready (rs := [7]) (by kernel_rfl) (by simp) ?_
              refine AllReadyH.cons (o := { dst := some 13, op := Op.alloc 117, type := 0, pos := "verify.go:348", after := #[], guard := none }) rfl (fun KQ hKQ => ?_) AllReadyH.nil
              go_simp
              refine hKQ.out _ _ (by (try dsimp only); go_keep) (fun hHeld => ?_)
              clear hKQ KQ
              try simp only [Act.put, List.setIfInBounds_toArray, List.set_cons_zero, List.set_cons_succ]
              refine wpAnyH_ready (rs := [8]) (by kernel_rfl) (by simp) ?_
              refine AllReadyH.cons (o := { dst := none, op := Op.store 117 (Operand.tmp 13) (Operand.tmp 97), type := 0, pos := "verify.go:348", after := #[{ on := 7, ground := Ground.data }, { on := 5, ground := Ground.data }, { on := 0, ground := Ground.chain }, { on := 0, ground := Ground.phase }, { on := 1, ground := Ground.phase }, { on := 2, ground := Ground.phase }, { on := 3, ground := Ground.phase }, { on := 4, ground := Ground.phase }, { on := 5, ground := Ground.phase }, { on := 6, ground := Ground.textOnly Departure.lateStores }, { on := 7, ground := Ground.phase }], guard := none }) rfl (fun KQ hKQ => ?_) AllReadyH.nil
              go_simp
              refine hKQ.out _ _ (by (try dsimp only); go_keep) (fun hHeld => ?_)
              clear hKQ KQ
              try simp only [Act.put, List.setIfInBounds_toArray, List.set_cons_zero, List.set_cons_succ]
              refine wpAnyH_take (i := 9) (oi := { dst := some 14, op := Op.assign (Operand.tmp 98), type := 4, pos := "verify.go:348", after := #[{ on := 6, ground := Ground.data }, { on := 8, ground := Ground.chain }, { on := 0, ground := Ground.phase }, { on := 1, ground := Ground.phase }, { on := 2, ground := Ground.phase }, { on := 3, ground := Ground.phase }, { on := 4, ground := Ground.phase }, { on := 5, ground := Ground.phase }, { on := 6, ground := Ground.phase }, { on := 7, ground := Ground.phase }, { on := 8, ground := Ground.phase }], guard := none }) (v := ?_) rfl (by kernel_rfl) (by kernel_rfl) (by kernel_rfl) (fun _ _ _ h => h) (Or.inl ⟨by rfl, ?_⟩) (by assumption) ?_
              rotate_left
              focus ((intro w hSw; (try dsimp only at hSw); go_simp) <;> (try with_reducible rfl))
              try simp only [Act.put, List.setIfInBounds_toArray, List.set_cons_zero, List.set_cons_succ]
              refine wpAnyH_done (by kernel_rfl) ?_ _
              go_wp2_with fail
              go_meet
              exact ⟨_, rfl, rfl, Lib.hid (Nb.after HB.out [.func (.func (65 + m)) #[] #[]] 117)⟩
            · go_simp
              refine hKQ.out _ _ (by (try dsimp only); go_keep) (fun hHeld => ?_)
              clear hKQ KQ
              try simp only [Act.put, List.setIfInBounds_toArray, List.set_cons_zero, List.set_cons_succ]
              refine wpAnyH_ready (rs := [3]) (by kernel_rfl) (by simp) ?_
              refine AllReadyH.cons (o := { dst := some 96, op := Op.lookup 119 (Operand.tmp 93) (Operand.tmp 95) true, type := 118, pos := "verify.go:348", after := #[{ on := 0, ground := Ground.data }, { on := 2, ground := Ground.data }], guard := none }) rfl (fun KQ hKQ => ?_) AllReadyH.nil
              go_simp
              refine hKQ.out _ _ (by (try dsimp only); go_keep) (fun hHeld => ?_)
              clear hKQ KQ
              try simp only [Act.put, List.setIfInBounds_toArray, List.set_cons_zero, List.set_cons_succ]
              refine wpAnyH_take (i := 4) (oi := { dst := some 92, op := Op.move (Operand.tmp 96), type := 118, pos := "verify.go:348", after := #[{ on := 3, ground := Ground.data }], guard := none }) (v := ?_) rfl (by kernel_rfl) (by kernel_rfl) (by kernel_rfl) (fun _ _ _ h => h) (Or.inl ⟨by rfl, ?_⟩) (by assumption) ?_
              rotate_left
              focus ((intro w hSw; (try dsimp only at hSw); go_simp) <;> (try with_reducible rfl))
              try simp only [Act.put, List.setIfInBounds_toArray, List.set_cons_zero, List.set_cons_succ]
              refine wpAnyH_take (i := 5) (oi := { dst := some 97, op := Op.extract (Operand.tmp 92) 0, type := 117, pos := "verify.go:348", after := #[{ on := 4, ground := Ground.data }], guard := none }) (v := ?_) rfl (by kernel_rfl) (by kernel_rfl) (by kernel_rfl) (fun _ _ _ h => h) (Or.inl ⟨by rfl, ?_⟩) (by assumption) ?_
              rotate_left
              focus ((intro w hSw; (try dsimp only at hSw); go_simp) <;> (try with_reducible rfl))
              try simp only [Act.put, List.setIfInBounds_toArray, List.set_cons_zero, List.set_cons_succ]
              refine wpAnyH_take (i := 6) (oi := { dst := some 98, op := Op.extract (Operand.tmp 92) 1, type := 4, pos := "verify.go:348", after := #[{ on := 4, ground := Ground.data }, { on := 8, ground := Ground.gcOnly Departure.lateStores }], guard := none }) (v := ?_) rfl (by kernel_rfl) (by kernel_rfl) (by kernel_rfl) (fun _ _ _ h => h) (Or.inl ⟨by rfl, ?_⟩) (by assumption) ?_
              rotate_left
              focus ((intro w hSw; (try dsimp only at hSw); go_simp) <;> (try with_reducible rfl))
              try simp only [Act.put, List.setIfInBounds_toArray, List.set_cons_zero, List.set_cons_succ]
              refine wpAnyH_ready (rs := [8]) (by kernel_rfl) (by simp) ?_
              refine AllReadyH.cons (o := { dst := none, op := Op.store 117 (Operand.tmp 13) (Operand.tmp 97), type := 0, pos := "verify.go:348", after := #[{ on := 7, ground := Ground.data }, { on := 5, ground := Ground.data }, { on := 0, ground := Ground.chain }, { on := 0, ground := Ground.phase }, { on := 1, ground := Ground.phase }, { on := 2, ground := Ground.phase }, { on := 3, ground := Ground.phase }, { on := 4, ground := Ground.phase }, { on := 5, ground := Ground.phase }, { on := 6, ground := Ground.textOnly Departure.lateStores }, { on := 7, ground := Ground.phase }], guard := none }) rfl (fun KQ hKQ => ?_) AllReadyH.nil
              go_simp
              refine hKQ.out _ _ (by (try dsimp only); go_keep) (fun hHeld => ?_)
              clear hKQ KQ
              try simp only [Act.put, List.setIfInBounds_toArray, List.set_cons_zero, List.set_cons_succ]
              refine wpAnyH_take (i := 9) (oi := { dst := some 14, op := Op.assign (Operand.tmp 98), type := 4, pos := "verify.go:348", after := #[{ on := 6, ground := Ground.data }, { on := 8, ground := Ground.chain }, { on := 0, ground := Ground.phase }, { on := 1, ground := Ground.phase }, { on := 2, ground := Ground.phase }, { on := 3, ground := Ground.phase }, { on := 4, ground := Ground.phase }, { on := 5, ground := Ground.phase }, { on := 6, ground := Ground.phase }, { on := 7, ground := Ground.phase }, { on := 8, ground := Ground.phase }], guard := none }) (v := ?_) rfl (by kernel_rfl) (by kernel_rfl) (by kernel_rfl) (fun _ _ _ h => h) (Or.inl ⟨by rfl, ?_⟩) (by assumption) ?_
              rotate_left
              focus ((intro w hSw; (try dsimp only at hSw); go_simp) <;> (try with_reducible rfl))
              try simp only [Act.put, List.setIfInBounds_toArray, List.set_cons_zero, List.set_cons_succ]
              refine wpAnyH_done (by kernel_rfl) ?_ _
              go_wp2_with fail
              go_meet
              exact ⟨_, rfl, rfl, Lib.hid (Nb.after HB.out [.func (.func (65 + m)) #[] #[]] 117)⟩
          · go_simp
            refine hKQ.out _ _ (by (try dsimp only); go_keep) (fun hHeld => ?_)
            clear hKQ KQ
            try simp only [Act.put, List.setIfInBounds_toArray, List.set_cons_zero, List.set_cons_succ]
            refine wpAnyH_ready (rs := [0]) (by kernel_rfl) (by simp) ?_
            refine AllReadyH.cons (o := { dst := some 93, op := Op.call { callee := Callee.value (Operand.func 39), args := #[], argTypes := #[] }, type := 119, pos := "verify.go:348", after := #[], guard := none }) rfl (fun KQ hKQ => ?_) AllReadyH.nil
            go_simp
            refine (handlers_any _).mono ?_
            rintro e wh ⟨rfl, hb⟩
            obtain ⟨hm1, hb1⟩ := hand_after hb
            have HB := Lib.hid (((Below.refl (w6.alloc (Obj.cells #[.nilFunc] 117)).heap.size (w6.alloc (Obj.cells #[.nilFunc] 117))).drew).trans hb1)
            clear hb hb1
            rw [show (w6.alloc (Obj.cells #[.nilFunc] 117)).drew.heap.size = w6.heap.size + 1 from Des.alloc_size _ _] at hm1
            have L1 : (Instr.lookup 119 (.map (some (w6.heap.size + 1))) (.int .i64 o.kd) true).run Tryz.prog wh = .ok (.tuple #[.agg #[.func (.func (65 + m)) #[] #[]], .bool true]) wh := hlook wh _ hm1 o.kd m HKM.out hm
            have L2 : (Instr.lookup 119 (.map (some (w6.heap.size + 1))) (.int .i64 o.kd) true).run Tryz.prog (wh.alloc (Obj.cells #[.nilFunc] 117)) = .ok (.tuple #[.agg #[.func (.func (65 + m)) #[] #[]], .bool true]) (wh.alloc (Obj.cells #[.nilFunc] 117)) := hlook _ _ (hmap_alloc hm1 _) o.kd m HKM.out hm
            have HM1 := Lib.hid hm1
            clear hm1
            have k0 : wh.cell? ⟨K1, 0, none⟩ = some (.int .i64 o.kd) := ((((Below.refl w6.heap.size w6).alloc (Nat.le_refl _) (Obj.cells #[.nilFunc] 117)).trans (HB.out.mono (by rw [Des.alloc_size]; omega))).cell (p := ⟨K1, 0, none⟩) HO6.out.hi).trans k6
            obtain ⟨f0, f1, fh⟩ := At.one (((At.new w6 [.nilFunc] 117).drew).below ((Below.refl _ _).trans (by have := HB.out; exact ⟨this.os, this.tape, this.output, this.size, this.block⟩)) (by show w6.heap.size < (w6.alloc _).heap.size; rw [Des.alloc_size]; omega))
            refine hKQ.out _ _ (by (try dsimp only); go_keep) (fun hHeld => ?_)
            clear hKQ KQ
            try simp only [Act.put, List.setIfInBounds_toArray, List.set_cons_zero, List.set_cons_succ]
            refine wpAnyH_ready (rs := [3]) (by kernel_rfl) (by simp) ?_
            refine AllReadyH.cons (o := { dst := some 96, op := Op.lookup 119 (Operand.tmp 93) (Operand.tmp 95) true, type := 118, pos := "verify.go:348", after := #[{ on := 0, ground := Ground.data }, { on := 2, ground := Ground.data }], guard := none }) rfl (fun KQ hKQ => ?_) AllReadyH.nil
            go_simp
            refine hKQ.out _ _ (by (try dsimp only); go_keep) (fun hHeld => ?_)
            clear hKQ KQ
            try simp only [Act.put, List.setIfInBounds_toArray, List.set_cons_zero, List.set_cons_succ]
            refine wpAnyH_take (i := 4) (oi := { dst := some 92, op := Op.move (Operand.tmp 96), type := 118, pos := "verify.go:348", after := #[{ on := 3, ground := Ground.data }], guard := none }) (v := ?_) rfl (by kernel_rfl) (by kernel_rfl) (by kernel_rfl) (fun _ _ _ h => h) (Or.inl ⟨by rfl, ?_⟩) (by assumption) ?_
            rotate_left
            focus ((intro w hSw; (try dsimp only at hSw); go_simp) <;> (try with_reducible rfl))
            try simp only [Act.put, List.setIfInBounds_toArray, List.set_cons_zero, List.set_cons_succ]
            refine wpAnyH_take (i := 5) (oi := { dst := some 97, op := Op.extract (Operand.tmp 92) 0, type := 117, pos := "verify.go:348", after := #[{ on := 4, ground := Ground.data }], guard := none }) (v := ?_) rfl (by kernel_rfl) (by kernel_rfl) (by kernel_rfl) (fun _ _ _ h => h) (Or.inl ⟨by rfl, ?_⟩) (by assumption) ?_
            rotate_left
            focus ((intro w hSw; (try dsimp only at hSw); go_simp) <;> (try with_reducible rfl))
            try simp only [Act.put, List.setIfInBounds_toArray, List.set_cons_zero, List.set_cons_succ]
            refine wpAnyH_take (i := 6) (oi := { dst := some 98, op := Op.extract (Operand.tmp 92) 1, type := 4, pos := "verify.go:348", after := #[{ on := 4, ground := Ground.data }, { on := 8, ground := Ground.gcOnly Departure.lateStores }], guard := none }) (v := ?_) rfl (by kernel_rfl) (by kernel_rfl) (by kernel_rfl) (fun _ _ _ h => h) (Or.inl ⟨by rfl, ?_⟩) (by assumption) ?_
            rotate_left
            focus ((intro w hSw; (try dsimp only at hSw); go_simp) <;> (try with_reducible rfl))
            try simp only [Act.put, List.setIfInBounds_toArray, List.set_cons_zero, List.set_cons_succ]
            refine wpAnyH_ready (rs := [8]) (by kernel_rfl) (by simp) ?_
            refine AllReadyH.cons (o := { dst := none, op := Op.store 117 (Operand.tmp 13) (Operand.tmp 97), type := 0, pos := "verify.go:348", after := #[{ on := 7, ground := Ground.data }, { on := 5, ground := Ground.data }, { on := 0, ground := Ground.chain }, { on := 0, ground := Ground.phase }, { on := 1, ground := Ground.phase }, { on := 2, ground := Ground.phase }, { on := 3, ground := Ground.phase }, { on := 4, ground := Ground.phase }, { on := 5, ground := Ground.phase }, { on := 6, ground := Ground.textOnly Departure.lateStores }, { on := 7, ground := Ground.phase }], guard := none }) rfl (fun KQ hKQ => ?_) AllReadyH.nil
            go_simp
            refine hKQ.out _ _ (by (try dsimp only); go_keep) (fun hHeld => ?_)
            clear hKQ KQ
            try simp only [Act.put, List.setIfInBounds_toArray, List.set_cons_zero, List.set_cons_succ]
            refine wpAnyH_take (i := 9) (oi := { dst := some 14, op := Op.assign (Operand.tmp 98), type := 4, pos := "verify.go:348", after := #[{ on := 6, ground := Ground.data }, { on := 8, ground := Ground.chain }, { on := 0, ground := Ground.phase }, { on := 1, ground := Ground.phase }, { on := 2, ground := Ground.phase }, { on := 3, ground := Ground.phase }, { on := 4, ground := Ground.phase }, { on := 5, ground := Ground.phase }, { on := 6, ground := Ground.phase }, { on := 7, ground := Ground.phase }, { on := 8, ground := Ground.phase }], guard := none }) (v := ?_) rfl (by kernel_rfl) (by kernel_rfl) (by kernel_rfl) (fun _ _ _ h => h) (Or.inl ⟨by rfl, ?_⟩) (by assumption) ?_
            rotate_left
            focus ((intro w hSw; (try dsimp only at hSw); go_simp) <;> (try with_reducible rfl))
            try simp only [Act.put, List.setIfInBounds_toArray, List.set_cons_zero, List.set_cons_succ]
            refine wpAnyH_done (by kernel_rfl) ?_ _
            go_wp2_with fail
            go_meet
            exact ⟨_, rfl, rfl, Lib.hid (Nb.before (T := 117) (zs := [.nilFunc]) HB.out [.func (.func (65 + m)) #[] #[]] rfl)⟩
        case rest =>
        obtain ⟨K3, rfl, rfl, HN⟩ := hcut
        obtain ⟨w7, hw7⟩ : ∃ w7, w7 = wc := ⟨_, rfl⟩
        subst hw7
        have HT7 := Lib.hid (HT6.out.below HN.out.bel)
        have HE7 := Lib.hid (HE6.out.below HN.out.bel HE6.out.hi)
        have HO7 := Lib.hid (HO6.out.below HN.out.bel HO6.out.hi)
        have HQ7 := Lib.hid (HQ6.out.below HN.out.bel HQ6.out.hi)
        clear HT6 HE6 HO6 HQ6
        have HPL : Hid (∀ W', Mm B W' l2 (ordS (stS s) x) → Calls Tryz.prog (65 + m) #[.agg #[.pointer (some ⟨l.M, 0, none⟩), .int .i64 (p : Int), .int .i64 o.kd, .int .i64 o.fd, .int .i64 o.fi, .int .i64 o.fl, .int .i64 o.off, .int .i64 o.len, .int .i64 o.pg, .string o.dat, .bool o.wr, .int .i64 x.tm, .int .i64 (p : Int), .int .i64 x.ix, .int .i64 x.fi, .int .i64 x.at', .int .i64 x.bg, .int .i64 x.er, .int .i64 x.n, .string x.dat]] W' (PlanP B W' l2 (ordS (stS s) x) (planR (ordS (stS s) x) p o x).1 (planR (ordS (stS s) x) p o x).2)) := Lib.hid fun W' hm => by
          rw [← HMM.out]
          have hsc3 : (ordS (stS s) x).scr = s.scr := by unfold ordS; split <;> rfl
          have h0 := plan_any (K + 1) B l2 (ordS (stS s) x) p o x W' hm (ok_ord x HOK.out) (by omega) (by rw [hsc3]; exact hps) m (by assumption) HKM.out HOKo.out.2.2.1 HOKo.out.2.2.2
          simp only [stepV, stepC] at h0
          rw [HPP.out] at h0
          exact h0
        have HFN : Hid (∀ args w, (callFunc (65 + m) args).run Tryz.prog w = .ok (.enter (65 + m) args) w) := Lib.hid (by
          rcases m with _ | _ | _ | _ | _ | _ | _ | _ | _ | _ | _ | _ | _ | _ | m
          all_goals first | omega | exact fun _ _ => rfl)
        have f3 := HN.out.at'.cell 0 (.func (.func (65 + m)) #[] #[]) rfl
        have hfn := HFN.out
        have e1 := HE7.out.cell 1 (.int .i64 (p : Int)) (by rw [← HPP.out]; rfl)
        obtain ⟨o0, o1, o2, o3, o4, o5, o6, o7, o8⟩ : w7.cell? ⟨K1, 0, none⟩ = some (.int .i64 o.kd) ∧ w7.cell? ⟨K1, 1, none⟩ = some (.int .i64 o.fd) ∧ w7.cell? ⟨K1, 2, none⟩ = some (.int .i64 o.fi) ∧ w7.cell? ⟨K1, 3, none⟩ = some (.int .i64 o.fl) ∧ w7.cell? ⟨K1, 4, none⟩ = some (.int .i64 o.off) ∧ w7.cell? ⟨K1, 5, none⟩ = some (.int .i64 o.len) ∧ w7.cell? ⟨K1, 6, none⟩ = some (.int .i64 o.pg) ∧ w7.cell? ⟨K1, 7, none⟩ = some (.string o.dat) ∧ w7.cell? ⟨K1, 8, none⟩ = some (.bool o.wr) := ⟨HO7.out.cell 0 _ rfl, HO7.out.cell 1 _ rfl, HO7.out.cell 2 _ rfl, HO7.out.cell 3 _ rfl, HO7.out.cell 4 _ rfl, HO7.out.cell 5 _ rfl, HO7.out.cell 6 _ rfl, HO7.out.cell 7 _ rfl, HO7.out.cell 8 _ rfl⟩
        obtain ⟨v0, v1, v2, v3, v4, v5, v6, v7, v8⟩ : w7.cell? ⟨W.heap.size, 0, none⟩ = some (.int .i64 x.tm) ∧ w7.cell? ⟨W.heap.size, 1, none⟩ = some (.int .i64 x.pr) ∧ w7.cell? ⟨W.heap.size, 2, none⟩ = some (.int .i64 x.ix) ∧ w7.cell? ⟨W.heap.size, 3, none⟩ = some (.int .i64 x.fi) ∧ w7.cell? ⟨W.heap.size, 4, none⟩ = some (.int .i64 x.at') ∧ w7.cell? ⟨W.heap.size, 5, none⟩ = some (.int .i64 x.bg) ∧ w7.cell? ⟨W.heap.size, 6, none⟩ = some (.int .i64 x.er) ∧ w7.cell? ⟨W.heap.size, 7, none⟩ = some (.int .i64 x.n) ∧ w7.cell? ⟨W.heap.size, 8, none⟩ = some (.string x.dat) := ⟨HE7.out.cell 0 _ rfl, HE7.out.cell 1 _ rfl, HE7.out.cell 2 _ rfl, HE7.out.cell 3 _ rfl, HE7.out.cell 4 _ rfl, HE7.out.cell 5 _ rfl, HE7.out.cell 6 _ rfl, HE7.out.cell 7 _ rfl, HE7.out.cell 8 _ rfl⟩
        clear v1
        have hok : judgeV o.kd (planR (ordS (stS s) x) p o x).1 (evRes x) = judgeV o.kd (planR (ordS (stS s) x) p o x).1 (evRes x) := rfl
        clear hok
        go_upto_region 15 with (fail)
        have hz1 := HQ7.out.cell 0 (.int .i64 0) rfl
        obtain ⟨⟨zc0, zc1, zc2, zc3⟩, ⟨zf0, zf1, zf2, zf3⟩, zh⟩ := At.four HQ7.out
        clear hz1
        go_wp2_with fail
        generalize hR : planR (ordS (stS s) x) p o x = R at *
        have HR := Lib.hid hR
        clear hR
        obtain ⟨r, s'⟩ := R
        refine (HPL.out _ HT7.out.m).mono ?_
        rintro e w8 hpl
        obtain ⟨dv, rfl, hb8, hdo⟩ := hpl
        have HDO := Lib.hid hdo
        have HB8 := Lib.hid hb8
        have HQ8 := Lib.hid (HQ7.out.below hb8 HQ7.out.hi)
        have HE8 := Lib.hid (HE7.out.below hb8 HE7.out.hi)
        have HO8 := Lib.hid (HO7.out.below hb8 HO7.out.hi)
        clear hdo hb8 zc0 zc1 zc2 zc3 zf0 zf1 zf2 zf3 zh HPL HFN hfn f3 e1 o0 o1 o2 o3 o4 o5 o6 o7 o8 v0 v2 v3 v4 v5 v6 v7 v8 HE7 HO7 HQ7
        obtain ⟨⟨zc0, zc1, zc2, zc3⟩, ⟨zf0, zf1, zf2, zf3⟩, zh⟩ := At.four HQ8.out
        obtain ⟨er, rn, rd⟩ := r
        simp only at HDO HTK0
        rcases HDO.out with ⟨hdv, hss⟩ | ⟨kf, caps, hdv, hcf, hcl⟩
        · subst hdv
          go_upto_region 16 with (fail)
          generalize hw9 : (((w8.setCell ⟨K2, 0, none⟩ (.int .i64 er)).setCell ⟨K2, 1, none⟩ (.int .i64 rn)).setCell ⟨K2, 2, none⟩ (.string rd)).setCell ⟨K2, 3, none⟩ (.nilFunc) = w9 at *
          have HB8' : Hid (Below K2 w5 w8) := Lib.hid ((HB6.out.trans (HN.out.bel.mono (by omega))).trans (HB8.out.mono (by have := HN.out.bel.size; omega)))
          have HB9 : Hid (Below K2 w5 w9) := Lib.hid (by rw [← hw9]; exact (((HB8'.out.setCell (p := ⟨K2, 0, none⟩) (Nat.le_refl _) _).setCell (p := ⟨K2, 1, none⟩) (Nat.le_refl _) _).setCell (p := ⟨K2, 2, none⟩) (Nat.le_refl _) _).setCell (p := ⟨K2, 3, none⟩) (Nat.le_refl _) _)
          have HT9 : Hid (Tk B W w9 l l2 (ordS (stS s) x)) := Lib.hid (HTB.out.below (by rw [HK2E.out]; exact HB9.out))
          have HQ9 : Hid (At w9 K2 [.int .i64 er, .int .i64 rn, .string rd, .nilFunc]) := Lib.hid (by rw [← hw9]; exact (((HQ8.out.set 0 _).set 1 _).set 2 _).set 3 _)
          have HE9 : Hid (At w9 W.heap.size x.cells) := Lib.hid (by rw [← hw9]; exact HE8.out.apart (by omega) 0 [.int .i64 er, .int .i64 rn, .string rd, .nilFunc])
          have HO9 : Hid (At w9 K1 o.cells) := Lib.hid (by rw [← hw9]; exact HO8.out.apart (by omega) 0 [.int .i64 er, .int .i64 rn, .string rd, .nilFunc])
          have HV9 : Hid (Vk [K2] w8 w9) := Lib.hid (by rw [← hw9]; exact (((Vk.set _ _ _ _ (by simp)).trans (Vk.set _ _ _ _ (by simp))).trans (Vk.set _ _ _ _ (by simp))).trans (Vk.set _ _ _ _ (by simp)))
          clear hw9 zc0 zc1 zc2 zc3 zf0 zf1 zf2 zf3 zh
          have HJ : Hid (∀ W', Calls Tryz.prog 40 #[.agg #[.int .i64 o.kd, .int .i64 o.fd, .int .i64 o.fi, .int .i64 o.fl, .int .i64 o.off, .int .i64 o.len, .int .i64 o.pg, .string o.dat, .bool o.wr], .agg #[.int .i64 er, .int .i64 rn, .string rd], .agg #[.int .i64 x.er, .int .i64 x.n, .string x.dat]] W' (RetW (.int .i64 (judgeV o.kd ⟨er, rn, rd⟩ (evRes x))) W')) := Lib.hid fun W' => judge_any o ⟨er, rn, rd⟩ (evRes x) W'
          obtain ⟨o0, o1, o2, o3, o4, o5, o6, o7, o8⟩ : w9.cell? ⟨K1, 0, none⟩ = some (.int .i64 o.kd) ∧ w9.cell? ⟨K1, 1, none⟩ = some (.int .i64 o.fd) ∧ w9.cell? ⟨K1, 2, none⟩ = some (.int .i64 o.fi) ∧ w9.cell? ⟨K1, 3, none⟩ = some (.int .i64 o.fl) ∧ w9.cell? ⟨K1, 4, none⟩ = some (.int .i64 o.off) ∧ w9.cell? ⟨K1, 5, none⟩ = some (.int .i64 o.len) ∧ w9.cell? ⟨K1, 6, none⟩ = some (.int .i64 o.pg) ∧ w9.cell? ⟨K1, 7, none⟩ = some (.string o.dat) ∧ w9.cell? ⟨K1, 8, none⟩ = some (.bool o.wr) := ⟨HO9.out.cell 0 _ rfl, HO9.out.cell 1 _ rfl, HO9.out.cell 2 _ rfl, HO9.out.cell 3 _ rfl, HO9.out.cell 4 _ rfl, HO9.out.cell 5 _ rfl, HO9.out.cell 6 _ rfl, HO9.out.cell 7 _ rfl, HO9.out.cell 8 _ rfl⟩
          obtain ⟨v6, v7, v8⟩ : w9.cell? ⟨W.heap.size, 6, none⟩ = some (.int .i64 x.er) ∧ w9.cell? ⟨W.heap.size, 7, none⟩ = some (.int .i64 x.n) ∧ w9.cell? ⟨W.heap.size, 8, none⟩ = some (.string x.dat) := ⟨HE9.out.cell 6 _ rfl, HE9.out.cell 7 _ rfl, HE9.out.cell 8 _ rfl⟩
          obtain ⟨⟨q0, q1, q2, q3⟩, _, _⟩ := At.four HQ9.out
          generalize judgeV o.kd ⟨er, rn, rd⟩ (evRes x) = jv at *
          go_wp2_with fail
          refine (HJ.out _).mono ?_
          rintro e wA ⟨rfl, hbA⟩
          have HTA := Lib.hid (HT9.out.below hbA)
          have HQA := Lib.hid (HQ9.out.below hbA HQ9.out.hi)
          have HEA := Lib.hid (HE9.out.below hbA HE9.out.hi)
          have HOA := Lib.hid (HO9.out.below hbA HO9.out.hi)
          have HBA := Lib.hid hbA
          clear hbA HT9 HQ9 HE9 HO9 HJ o0 o1 o2 o3 o4 o5 o6 o7 o8 v6 v7 v8 q0 q1 q2 q3
          obtain ⟨⟨q0, q1, q2, q3⟩, _, _⟩ := At.four HQA.out
          have o0 := HOA.out.cell 0 (.int .i64 o.kd) rfl
          have v6 := HEA.out.cell 6 (.int .i64 x.er) rfl
          subst hss
          have hneq := neq_nil wA
          have HTK : Hid (takeS s i x = (if okB = true then jv else 4, ordS (stS s) x)) := Lib.hid (by rw [HTK0.out]; congr 1; split <;> rfl)
          cases okB with
          | true =>
            go_wp2_with fail
            exact bodyPost_ret (v := .int .i64 jv) (by simp [results, Tryz.results25, go_sem]) rfl ⟨l2, by rw [HTK.out]; rfl, by rw [HTK.out]; exact HTA.out⟩
          | false =>
            go_wp2_with fail
            exact bodyPost_ret (v := .int .i64 4) (by simp [results, Tryz.results25, go_sem]) rfl ⟨l2, by rw [HTK.out]; rfl, by rw [HTK.out]; exact HTA.out⟩
        · subst hdv
          go_upto_region 16 with (fail)
          generalize hw9 : (((w8.setCell ⟨K2, 0, none⟩ (.int .i64 er)).setCell ⟨K2, 1, none⟩ (.int .i64 rn)).setCell ⟨K2, 2, none⟩ (.string rd)).setCell ⟨K2, 3, none⟩ (.func (.func kf) #[] caps) = w9 at *
          have HB8' : Hid (Below K2 w5 w8) := Lib.hid ((HB6.out.trans (HN.out.bel.mono (by omega))).trans (HB8.out.mono (by have := HN.out.bel.size; omega)))
          have HB9 : Hid (Below K2 w5 w9) := Lib.hid (by rw [← hw9]; exact (((HB8'.out.setCell (p := ⟨K2, 0, none⟩) (Nat.le_refl _) _).setCell (p := ⟨K2, 1, none⟩) (Nat.le_refl _) _).setCell (p := ⟨K2, 2, none⟩) (Nat.le_refl _) _).setCell (p := ⟨K2, 3, none⟩) (Nat.le_refl _) _)
          have HT9 : Hid (Tk B W w9 l l2 (ordS (stS s) x)) := Lib.hid (HTB.out.below (by rw [HK2E.out]; exact HB9.out))
          have HQ9 : Hid (At w9 K2 [.int .i64 er, .int .i64 rn, .string rd, .func (.func kf) #[] caps]) := Lib.hid (by rw [← hw9]; exact (((HQ8.out.set 0 _).set 1 _).set 2 _).set 3 _)
          have HE9 : Hid (At w9 W.heap.size x.cells) := Lib.hid (by rw [← hw9]; exact HE8.out.apart (by omega) 0 [.int .i64 er, .int .i64 rn, .string rd, .func (.func kf) #[] caps])
          have HO9 : Hid (At w9 K1 o.cells) := Lib.hid (by rw [← hw9]; exact HO8.out.apart (by omega) 0 [.int .i64 er, .int .i64 rn, .string rd, .func (.func kf) #[] caps])
          have HV9 : Hid (Vk [K2] w8 w9) := Lib.hid (by rw [← hw9]; exact (((Vk.set _ _ _ _ (by simp)).trans (Vk.set _ _ _ _ (by simp))).trans (Vk.set _ _ _ _ (by simp))).trans (Vk.set _ _ _ _ (by simp)))
          clear hw9 zc0 zc1 zc2 zc3 zf0 zf1 zf2 zf3 zh
          have HJ : Hid (∀ W', Calls Tryz.prog 40 #[.agg #[.int .i64 o.kd, .int .i64 o.fd, .int .i64 o.fi, .int .i64 o.fl, .int .i64 o.off, .int .i64 o.len, .int .i64 o.pg, .string o.dat, .bool o.wr], .agg #[.int .i64 er, .int .i64 rn, .string rd], .agg #[.int .i64 x.er, .int .i64 x.n, .string x.dat]] W' (RetW (.int .i64 (judgeV o.kd ⟨er, rn, rd⟩ (evRes x))) W')) := Lib.hid fun W' => judge_any o ⟨er, rn, rd⟩ (evRes x) W'
          obtain ⟨o0, o1, o2, o3, o4, o5, o6, o7, o8⟩ : w9.cell? ⟨K1, 0, none⟩ = some (.int .i64 o.kd) ∧ w9.cell? ⟨K1, 1, none⟩ = some (.int .i64 o.fd) ∧ w9.cell? ⟨K1, 2, none⟩ = some (.int .i64 o.fi) ∧ w9.cell? ⟨K1, 3, none⟩ = some (.int .i64 o.fl) ∧ w9.cell? ⟨K1, 4, none⟩ = some (.int .i64 o.off) ∧ w9.cell? ⟨K1, 5, none⟩ = some (.int .i64 o.len) ∧ w9.cell? ⟨K1, 6, none⟩ = some (.int .i64 o.pg) ∧ w9.cell? ⟨K1, 7, none⟩ = some (.string o.dat) ∧ w9.cell? ⟨K1, 8, none⟩ = some (.bool o.wr) := ⟨HO9.out.cell 0 _ rfl, HO9.out.cell 1 _ rfl, HO9.out.cell 2 _ rfl, HO9.out.cell 3 _ rfl, HO9.out.cell 4 _ rfl, HO9.out.cell 5 _ rfl, HO9.out.cell 6 _ rfl, HO9.out.cell 7 _ rfl, HO9.out.cell 8 _ rfl⟩
          obtain ⟨v6, v7, v8⟩ : w9.cell? ⟨W.heap.size, 6, none⟩ = some (.int .i64 x.er) ∧ w9.cell? ⟨W.heap.size, 7, none⟩ = some (.int .i64 x.n) ∧ w9.cell? ⟨W.heap.size, 8, none⟩ = some (.string x.dat) := ⟨HE9.out.cell 6 _ rfl, HE9.out.cell 7 _ rfl, HE9.out.cell 8 _ rfl⟩
          obtain ⟨⟨q0, q1, q2, q3⟩, _, _⟩ := At.four HQ9.out
          generalize judgeV o.kd ⟨er, rn, rd⟩ (evRes x) = jv at *
          go_wp2_with fail
          refine (HJ.out _).mono ?_
          rintro e wA ⟨rfl, hbA⟩
          have HTA := Lib.hid (HT9.out.below hbA)
          have HQA := Lib.hid (HQ9.out.below hbA HQ9.out.hi)
          have HEA := Lib.hid (HE9.out.below hbA HE9.out.hi)
          have HOA := Lib.hid (HO9.out.below hbA HO9.out.hi)
          have HBA := Lib.hid hbA
          clear hbA HT9 HQ9 HE9 HO9 HJ o0 o1 o2 o3 o4 o5 o6 o7 o8 v6 v7 v8 q0 q1 q2 q3
          obtain ⟨⟨q0, q1, q2, q3⟩, _, _⟩ := At.four HQA.out
          have o0 := HOA.out.cell 0 (.int .i64 o.kd) rfl
          have v6 := HEA.out.cell 6 (.int .i64 x.er) rfl
          by_cases hk8 : o.kd = 8
          · have hk8e : (o.kd == 8) = true := by simp [hk8]
            have HTK : Hid (takeS s i x = (if okB = true then jv else 4, s')) := Lib.hid (by rw [HTK0.out]; rw [if_pos (Or.inl hk8)])
            have HFA : Hid (Far B l2 (ordS (stS s) x) w7 w8 wA) := Lib.hid ⟨K2, w5, HTB.out.m, by rw [HK2E.out]; exact HB6.out.trans (HN.out.bel.mono (by omega)), by rw [HK2E.out]; exact Nat.le_refl _, by have := HN.out.bel.size; omega, HV9.out.trans (Vk.ofBelow HBA.out)⟩
            have hneq := neq_fn kf caps wA
            have hcf2 := hcf
            go_wp2_with fail
            refine (hcl wA HFA.out).mono ?_
            rintro e wB ⟨x', ar', hs', rfl, hm, hv⟩
            have HTC : Hid (Tk B W wB l { l2 with x := x', ar := ar', hs := hs' } s') := Lib.hid (HTA.out.step hm hv (fun _ h => Or.inl h) rfl rfl)
            clear hm hv q0 q1 q2 q3 o0 v6
            cases okB with
            | true =>
              go_wp2_with fail
              exact bodyPost_ret (v := .int .i64 jv) (by simp [results, Tryz.results25, go_sem]) rfl ⟨{ l2 with x := x', ar := ar', hs := hs' }, by rw [HTK.out]; rfl, by rw [HTK.out]; exact HTC.out⟩
            | false =>
              go_wp2_with fail
              exact bodyPost_ret (v := .int .i64 4) (by simp [results, Tryz.results25, go_sem]) rfl ⟨{ l2 with x := x', ar := ar', hs := hs' }, by rw [HTK.out]; rfl, by rw [HTK.out]; exact HTC.out⟩
          · have hk8e : (o.kd == 8) = false := by simp [hk8]
            by_cases her : x.er = 0
            · have here : (x.er == 0) = true := by simp [her]
              have HTK : Hid (takeS s i x = (if okB = true then jv else 4, s')) := Lib.hid (by rw [HTK0.out]; rw [if_pos (Or.inr her)])
              have HFA : Hid (Far B l2 (ordS (stS s) x) w7 w8 wA) := Lib.hid ⟨K2, w5, HTB.out.m, by rw [HK2E.out]; exact HB6.out.trans (HN.out.bel.mono (by omega)), by rw [HK2E.out]; exact Nat.le_refl _, by have := HN.out.bel.size; omega, HV9.out.trans (Vk.ofBelow HBA.out)⟩
              have hneq := neq_fn kf caps wA
              have hcf2 := hcf
              go_wp2_with fail
              refine (hcl wA HFA.out).mono ?_
              rintro e wB ⟨x', ar', hs', rfl, hm, hv⟩
              have HTC : Hid (Tk B W wB l { l2 with x := x', ar := ar', hs := hs' } s') := Lib.hid (HTA.out.step hm hv (fun _ h => Or.inl h) rfl rfl)
              clear hm hv q0 q1 q2 q3 o0 v6
              cases okB with
              | true =>
                go_wp2_with fail
                exact bodyPost_ret (v := .int .i64 jv) (by simp [results, Tryz.results25, go_sem]) rfl ⟨{ l2 with x := x', ar := ar', hs := hs' }, by rw [HTK.out]; rfl, by rw [HTK.out]; exact HTC.out⟩
              | false =>
                go_wp2_with fail
                exact bodyPost_ret (v := .int .i64 4) (by simp [results, Tryz.results25, go_sem]) rfl ⟨{ l2 with x := x', ar := ar', hs := hs' }, by rw [HTK.out]; rfl, by rw [HTK.out]; exact HTC.out⟩
            · have here : (x.er == 0) = false := by simp [her]
              have hneq := neq_fn kf caps wA
              have HTK : Hid (takeS s i x = (if okB = true then jv else 4, ordS (stS s) x)) := Lib.hid (by rw [HTK0.out]; rw [if_neg (show ¬ (o.kd = 8 ∨ x.er = 0) from fun hh => hh.elim hk8 her)])
              cases okB with
              | true =>
                go_wp2_with fail
                exact bodyPost_ret (v := .int .i64 jv) (by simp [results, Tryz.results25, go_sem]) rfl ⟨l2, by rw [HTK.out]; rfl, by rw [HTK.out]; exact HTA.out⟩
              | false =>
                go_wp2_with fail
                exact bodyPost_ret (v := .int .i64 4) (by simp [results, Tryz.results25, go_sem]) rfl ⟨l2, by rw [HTK.out]; rfl, by rw [HTK.out]; exact HTA.out⟩
end Go.Proofs.YtimhaidiclbnhaaGreat.Ver
