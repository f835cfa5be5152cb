/- Variables that have descriptors, beside a tape. -/
import Derived.Test.YtflcbefomjlgmaaPd
import Derived.Test.YtflcbefomjlgmaaTapO
import Derived.Test.YtflcbefomjlgmaaOp
import Derived.Test.YtflcbefomjlgmaaDu
import Derived.Test.YtflcbefomjlgmaaDr
import Derived.Test.YtflcbefomjlgmaaOr
import Derived.Test.YtflcbefomjlgmaaCs
import Derived.Test.YtflcbefomjlgmaaCq
import Derived.Test.YtflcbefomjlgmaaUp
import Derived.Test.YtflcbefomjlgmaaFk
import Derived.Test.YtflcbefomjlgmaaFq
set_option linter.unusedSimpArgs false
set_option linter.unusedVariables false
namespace Go.Proofs.Ytflcbefomjlgmaa
open Go.ChangeShapes Go.WideShapes Go.ChangeAt Go.RowKit

theorem RowOf.blk {w : World} {a : Option Addr} {n cap : Nat} {cs : List Value} (h : RowOf w a n cap cs) {q : Addr} (hq : a = some q) : q.block < w.heap.size := by
  rcases h with ⟨h, _⟩ | ⟨g, o, h1, h2, _⟩
  · rw [h] at hq; cases hq
  · rw [h1] at hq; cases hq; exact h2
theorem DIn.blk {W : World} {x : Dv} (h : DIn W x) {b : Nat} (hb : DBlk x b) : b < W.heap.size := by
  rcases hb with ⟨q, h1, rfl⟩ | ⟨q, h1, rfl⟩ | ⟨z, hz, q, h1, rfl⟩
  · exact h.o.blk h1
  · exact h.t.blk h1
  · exact (h.e z hz).blk h1
theorem DIn.keepB {W W' : World} {x : Dv} (h : DIn W x) (hs : W.heap.size ≤ W'.heap.size) (hk : ∀ b, DBlk x b → W'.heap[b]? = W.heap[b]?) : DIn W' x :=
  ⟨h.o.keep hs fun g o e _ i => World.cell?_of_block (w := W) (a := ⟨g, i, none⟩) (hk g (Or.inl ⟨_, e, rfl⟩)),
   h.t.keep hs fun g o e _ i => World.cell?_of_block (w := W) (a := ⟨g, i, none⟩) (hk g (Or.inr (Or.inl ⟨_, e, rfl⟩))),
   fun y hy => (h.e y hy).keep hs fun g o e _ i => World.cell?_of_block (w := W) (a := ⟨g, i, none⟩) (hk g (Or.inr (Or.inr ⟨y, hy, _, e, rfl⟩)))⟩
/-- x may be read, and it lies in none of the blocks V -/
structure Vi (W : World) (V : List Nat) (x : Dv) : Prop where
  di : DIn W x
  out : ∀ b, DBlk x b → b ∉ V
theorem Vi.below {W W' : World} {V : List Nat} {x : Dv} (h : Vi W V x) (hb : Below W.heap.size W W') : Vi W' V x := ⟨h.di.below hb, h.out⟩
theorem Vi.tick {W W' : World} {V : List Nat} {x : Dv} {t : Nat} (h : Vi W V x) (hk : Tick t W W') (ht : t ∈ V) : Vi W' V x :=
  ⟨h.di.keepB (Nat.le_of_eq hk.size.symm) fun b hb => hk.block b (fun e => h.out b hb (e ▸ ht)), h.out⟩
theorem Vi.tock {W W' : World} {V : List Nat} {x : Dv} {t : Nat} (h : Vi W V x) (hk : Tock t W W') (ht : t ∈ V) : Vi W' V x :=
  ⟨h.di.keepB hk.size fun b hb => hk.block b (fun e => h.out b hb (e ▸ ht)) (h.di.blk hb), h.out⟩
theorem Vi.set {W : World} {V : List Nat} {x : Dv} {D : Nat} (h : Vi W V x) (hD : D ∈ V) (o : Nat) (v : Value) : Vi (W.setCell ⟨D, o, none⟩ v) V x :=
  ⟨h.di.keepB (by simp [World.setCell]) fun b hb => Below.heap_setCell W ⟨D, o, none⟩ v b (fun e => h.out b hb (e ▸ hD)), h.out⟩
theorem Vi.more {W : World} {V : List Nat} {x : Dv} (h : Vi W V x) (D : Nat) (hD : W.heap.size ≤ D) : Vi W (D :: V) x :=
  ⟨h.di, fun b hb hm => by
    rcases List.mem_cons.1 hm with rfl | hm
    · exact absurd (h.di.blk hb) (by omega)
    · exact h.out b hb hm⟩
theorem Vi.less {W : World} {V : List Nat} {x : Dv} {D : Nat} (h : Vi W (D :: V) x) : Vi W V x := ⟨h.di, fun b hb hm => h.out b hb (List.mem_cons_of_mem _ hm)⟩
/-- what a call answers lies in none of the blocks that its argument does not lie in -/
theorem DAns.vi {W W' : World} {V : List Nat} {x y : Dv} (h : DAns W x W' y) (hx : Vi W V x) (hV : ∀ b, b ∈ V → b < W.heap.size) : Vi W' V y :=
  ⟨h.di, fun b hb hm => by
    rcases h.blk b hb with h1 | h1
    · exact hx.out b h1 hm
    · have := hV b hm; omega⟩
theorem Bx.tick {W W' : World} {b t : Nat} {x : Dv} (h : Bx W b x) (hk : Tick t W W') (hne : b ≠ t) : Bx W' b x := h.same hk.size (hk.block b hne)
theorem Bx.tock {W W' : World} {b t : Nat} {x : Dv} (h : Bx W b x) (hk : Tock t W W') (hne : b ≠ t) : Bx W' b x := by
  have hb := hk.block b hne h.at'.hi
  refine ⟨⟨fun j u hj => (World.cell?_of_block (w := W) (a := ⟨b, 0 + j, none⟩) hb).trans (h.at'.r j u hj), fun j hj => ?_, Nat.lt_of_lt_of_le h.at'.hi hk.size⟩, by rw [hb]; exact h.ty⟩
  rw [World.cell?_of_block (w := W) (a := ⟨b, 0 + j, none⟩) hb, World.frozen?_of_block (w := W) (a := ⟨b, 0 + j, none⟩) hb]
  exact h.at'.t j hj
theorem Bx.put {W : World} {b : Nat} {x : Dv} (h : Bx W b x) (y : Dv) : Bx ((W.setCell ⟨b, 0, none⟩ (.slice y.oa y.o.length y.oc)).setCell ⟨b, 1, none⟩ (.slice y.ta y.t.length y.tc)) b y :=
  (h.setO y.oa y.oc y.o _ rfl).setT y.ta y.tc y.t _ rfl
theorem At.tick {W W' : World} {b t : Nat} {cs : List Value} (h : At W b cs) (hk : Tick t W W') (hne : b ≠ t) : At W' b cs := by
  have hb := hk.block b hne
  refine ⟨fun j u hj => (World.cell?_of_block (w := W) (a := ⟨b, 0 + j, none⟩) hb).trans (h.r j u hj), fun j hj => ?_, by rw [hk.size]; exact h.hi⟩
  rw [World.cell?_of_block (w := W) (a := ⟨b, 0 + j, none⟩) hb, World.frozen?_of_block (w := W) (a := ⟨b, 0 + j, none⟩) hb]
  exact h.t j hj
theorem At.tock {W W' : World} {b t : Nat} {cs : List Value} (h : At W b cs) (hk : Tock t W W') (hne : b ≠ t) : At W' b cs := by
  have hb := hk.block b hne h.hi
  refine ⟨fun j u hj => (World.cell?_of_block (w := W) (a := ⟨b, 0 + j, none⟩) hb).trans (h.r j u hj), fun j hj => ?_, Nat.lt_of_lt_of_le h.hi hk.size⟩
  rw [World.cell?_of_block (w := W) (a := ⟨b, 0 + j, none⟩) hb, World.frozen?_of_block (w := W) (a := ⟨b, 0 + j, none⟩) hb]
  exact h.t j hj
/-- the tape, when another block is written -/
theorem TP.set {w0 W : World} {t : Nat} {a : Option Addr} {len cap : Nat} (h : TP w0 t a len cap W) {D : Nat} (hD : w0.heap.size ≤ D) (hne : t ≠ D) (o : Nat) (v : Value) : TP w0 t a len cap (W.setCell ⟨D, o, none⟩ v) := by
  obtain ⟨k, h⟩ := h
  have hb : (W.setCell ⟨D, o, none⟩ v).heap[t]? = W.heap[t]? := Below.heap_setCell W ⟨D, o, none⟩ v t hne
  exact ⟨k, h.row, h.lo, by simpa [World.setCell] using h.hi, h.bel.setCell (p := ⟨D, o, none⟩) hD v, (World.cell?_of_block (w := W) (a := ⟨t, 0, none⟩) hb).trans h.c0, (World.cell?_of_block (w := W) (a := ⟨t, 1, none⟩) hb).trans h.c1, (World.frozen?_of_block (w := W) (a := ⟨t, 1, none⟩) hb).trans h.fz, h.kl, h.lm⟩
/-! the calls, with their values written out -/
theorem open_v (x : Dv) (p fi fl c : Int) (W : World) (h : DIn W x) (hz : DSz x) : Calls Try.prog 10 #[.agg #[.slice x.oa x.o.length x.oc, .slice x.ta x.t.length x.tc], .int .i64 p, .int .i64 fi, .int .i64 fl, .int .i64 c] W fun e w' => ∃ y : Dv, e = .returned (.tuple #[.agg #[.slice y.oa y.o.length y.oc, .slice y.ta y.t.length y.tc], .int .i64 (openF x.pl p fi fl c), .int .i64 (openE x.pl p fi fl c)]) ∧ y.pl = openD x.pl p fi fl c ∧ DAns W x w' y ∧ Below W.heap.size W w' :=
  (open_any x p fi fl c W h hz).mono fun e w' ⟨y, h1, h2, h3, h4⟩ => ⟨y, h1, h2, h3, h4⟩
theorem openR_v (x : Dv) (p fi fl c : Int) (W : World) (h : DIn W x) (hz : DSz x) : Calls Try.prog 11 #[.agg #[.slice x.oa x.o.length x.oc, .slice x.ta x.t.length x.tc], .int .i64 p, .int .i64 fi, .int .i64 fl, .int .i64 c] W fun e w' => ∃ y : Dv, e = .returned (.tuple #[.agg #[.slice y.oa y.o.length y.oc, .slice y.ta y.t.length y.tc], .int .i64 (openF x.pl p fi fl c), .int .i64 (openE x.pl p fi fl c)]) ∧ y.pl = openD x.pl p fi fl c ∧ DAns W x w' y ∧ Below W.heap.size W w' :=
  (openR_any x p fi fl c W h hz).mono fun e w' ⟨y, h1, h2, h3, h4⟩ => ⟨y, h1, h2, h3, h4⟩
theorem dup_v (x : Dv) (p f : Int) (W : World) (h : DIn W x) (hz : DSz x) : Calls Try.prog 12 #[.agg #[.slice x.oa x.o.length x.oc, .slice x.ta x.t.length x.tc], .int .i64 p, .int .i64 f] W fun e w' => ∃ y : Dv, e = .returned (.tuple #[.agg #[.slice y.oa y.o.length y.oc, .slice y.ta y.t.length y.tc], .int .i64 (dupF x.pl p f), .int .i64 (dupE x.pl p f)]) ∧ y.pl = dupD x.pl p f ∧ DAns W x w' y ∧ Below W.heap.size W w' :=
  (dup_any x p f W h hz).mono fun e w' ⟨y, h1, h2, h3, h4⟩ => ⟨y, h1, h2, h3, h4⟩
theorem dupR_v (x : Dv) (p f : Int) (W : World) (h : DIn W x) (hz : DSz x) : Calls Try.prog 13 #[.agg #[.slice x.oa x.o.length x.oc, .slice x.ta x.t.length x.tc], .int .i64 p, .int .i64 f] W fun e w' => ∃ y : Dv, e = .returned (.tuple #[.agg #[.slice y.oa y.o.length y.oc, .slice y.ta y.t.length y.tc], .int .i64 (dupF x.pl p f), .int .i64 (dupE x.pl p f)]) ∧ y.pl = dupD x.pl p f ∧ DAns W x w' y ∧ Below W.heap.size W w' :=
  (dupR_any x p f W h hz).mono fun e w' ⟨y, h1, h2, h3, h4⟩ => ⟨y, h1, h2, h3, h4⟩
theorem close_v (x : Dv) (p f : Int) (W : World) (h : DIn W x) (hz : DSz x) : Calls Try.prog 17 #[.agg #[.slice x.oa x.o.length x.oc, .slice x.ta x.t.length x.tc], .int .i64 p, .int .i64 f] W fun e w' => ∃ y : Dv, e = .returned (.tuple #[.agg #[.slice y.oa y.o.length y.oc, .slice y.ta y.t.length y.tc], .bool (closeG x.pl p f), .int .i64 (numE x.pl p f)]) ∧ y.pl = closeD x.pl p f ∧ DAns W x w' y ∧ Below W.heap.size W w' :=
  (close_any x p f W h hz).mono fun e w' ⟨y, h1, h2, h3, h4⟩ => ⟨y, h1, h2, h3, h4⟩
theorem closeR_v (x : Dv) (p f : Int) (W : World) (h : DIn W x) (hz : DSz x) : Calls Try.prog 18 #[.agg #[.slice x.oa x.o.length x.oc, .slice x.ta x.t.length x.tc], .int .i64 p, .int .i64 f] W fun e w' => ∃ y : Dv, e = .returned (.tuple #[.agg #[.slice y.oa y.o.length y.oc, .slice y.ta y.t.length y.tc], .bool (closeG x.pl p f), .int .i64 (numE x.pl p f)]) ∧ y.pl = closeD x.pl p f ∧ DAns W x w' y ∧ Below W.heap.size W w' :=
  (closeR_any x p f W h hz).mono fun e w' ⟨y, h1, h2, h3, h4⟩ => ⟨y, h1, h2, h3, h4⟩
theorem fork_v (x : Dv) (p q : Int) (W : World) (h : DIn W x) (hz : DSz x) : Calls Try.prog 15 #[.agg #[.slice x.oa x.o.length x.oc, .slice x.ta x.t.length x.tc], .int .i64 p, .int .i64 q] W fun e w' => ∃ y : Dv, e = .returned (.tuple #[.agg #[.slice y.oa y.o.length y.oc, .slice y.ta y.t.length y.tc], .int .i64 (forkE x.pl p q)]) ∧ y.pl = forkD x.pl p q ∧ DAns W x w' y ∧ Below W.heap.size W w' :=
  (fork_any x p q W h hz).mono fun e w' ⟨y, h1, h2, h3, h4⟩ => ⟨y, h1, h2, h3, h4⟩
theorem forkR_v (x : Dv) (p q : Int) (W : World) (h : DIn W x) (hz : DSz x) : Calls Try.prog 16 #[.agg #[.slice x.oa x.o.length x.oc, .slice x.ta x.t.length x.tc], .int .i64 p, .int .i64 q] W fun e w' => ∃ y : Dv, e = .returned (.tuple #[.agg #[.slice y.oa y.o.length y.oc, .slice y.ta y.t.length y.tc], .int .i64 (forkE x.pl p q)]) ∧ y.pl = forkD x.pl p q ∧ DAns W x w' y ∧ Below W.heap.size W w' :=
  (forkR_any x p q W h hz).mono fun e w' ⟨y, h1, h2, h3, h4⟩ => ⟨y, h1, h2, h3, h4⟩
theorem upd_v (x : Dv) (n fi fl f c rf : Int) (W : World) (h : DIn W x) (hz : DSz x) : Calls Try.prog 21 #[.agg #[.slice x.oa x.o.length x.oc, .slice x.ta x.t.length x.tc], .int .i64 n, .agg #[.int .i64 fi, .int .i64 fl, .int .i64 f, .int .i64 c, .int .i64 rf]] W fun e w' => ∃ y : Dv, e = .returned (.tuple #[.agg #[.slice y.oa y.o.length y.oc, .slice y.ta y.t.length y.tc], .int .i64 (updE x.pl n f c)]) ∧ y.pl = updD x.pl n f c ∧ DAns W x w' y ∧ Below W.heap.size W w' :=
  (upd_any x n fi fl f c rf W h hz).mono fun e w' ⟨y, h1, h2, h3, h4⟩ => ⟨y, h1, h2, h3, h4⟩
theorem updR_v (x : Dv) (n fi fl f c rf : Int) (W : World) (h : DIn W x) (hz : DSz x) : Calls Try.prog 22 #[.agg #[.slice x.oa x.o.length x.oc, .slice x.ta x.t.length x.tc], .int .i64 n, .agg #[.int .i64 fi, .int .i64 fl, .int .i64 f, .int .i64 c, .int .i64 rf]] W fun e w' => ∃ y : Dv, e = .returned (.tuple #[.agg #[.slice y.oa y.o.length y.oc, .slice y.ta y.t.length y.tc], .int .i64 (updE x.pl n f c)]) ∧ y.pl = updD x.pl n f c ∧ DAns W x w' y ∧ Below W.heap.size W w' :=
  (updR_any x n fi fl f c rf W h hz).mono fun e w' ⟨y, h1, h2, h3, h4⟩ => ⟨y, h1, h2, h3, h4⟩
theorem new25_v (p : Int) (W : World) : Calls Try.prog 25 #[.int .i64 p] W fun e w' => ∃ y : Dv, e = .returned (.tuple #[.agg #[.slice y.oa y.o.length y.oc, .slice y.ta y.t.length y.tc], .int .i64 (newE p)]) ∧ y.pl = newD p ∧ DAns W Dv.nil w' y ∧ Below W.heap.size W w' :=
  (new25_any p W).mono fun e w' ⟨y, h1, h2, h3, h4⟩ => ⟨y, h1, h2, h3, h4⟩
theorem new26_v (p : Int) (W : World) : Calls Try.prog 26 #[.int .i64 p] W fun e w' => ∃ y : Dv, e = .returned (.tuple #[.agg #[.slice y.oa y.o.length y.oc, .slice y.ta y.t.length y.tc], .int .i64 (newE p)]) ∧ y.pl = newD p ∧ DAns W Dv.nil w' y ∧ Below W.heap.size W w' :=
  (new26_any p W).mono fun e w' ⟨y, h1, h2, h3, h4⟩ => ⟨y, h1, h2, h3, h4⟩
end Go.Proofs.Ytflcbefomjlgmaa
