/- The walk of DescriptorCalls. -/
import Derived.Test.YtflcbefomjlgmaaDw
import Derived.Test.YtflcbefomjlgmaaAwk
import Derived.Test.YtflcbefomjlgmaaSm
import Derived.Deep.CutBlock
set_option linter.unusedSimpArgs false
set_option linter.unusedVariables false
namespace Go.Proofs.Ytflcbefomjlgmaa
open Go.ChangeShapes Go.WideShapes Go.ChangeAt Go.RowKit

theorem DSz.eq {x y : Dv} (h : DSz x) (e : y.pl = x.pl) : DSz y := by
  have e1 : y.o = x.o := congrArg De.o e
  have e2 : y.t.map Tb.l = x.t.map Tb.l := congrArg De.t e
  refine ⟨by rw [e1]; exact h.o, ?_, fun b hb => ?_⟩
  · have := congrArg List.length e2
    rw [List.length_map, List.length_map] at this
    rw [this]; exact h.t
  · have hm : b.l ∈ y.t.map Tb.l := List.mem_map_of_mem hb
    rw [e2] at hm
    obtain ⟨c, hc, hcl⟩ := List.mem_map.1 hm
    rw [← hcl]; exact h.e c hc
theorem sz_of {x y : Dv} {D : De} (hx : DSz x) (e : y.pl = D) (h : D = x.pl ∨ Rt D) : DSz y := by
  rcases h with h | h
  · exact hx.eq (e.trans h)
  · exact (check_sz (rt_check h)).sz e
theorem open_or (d : De) (p fi fl c : Int) : openD d p fi fl c = d ∨ Rt (openD d p fi fl c) := by
  by_cases h : openE d p fi fl c = 0
  · exact Or.inr (rt_open (check_rt (open_ok h).1))
  · exact Or.inl (by unfold openD; rw [if_neg h])
theorem dup_or (d : De) (p f : Int) : dupD d p f = d ∨ Rt (dupD d p f) := by
  by_cases h : dupE d p f = 0
  · exact Or.inr (rt_dup (check_rt (num_ok (dup_ok h).1).1))
  · exact Or.inl (by unfold dupD; rw [if_neg h])
theorem close_or (d : De) (p f : Int) : closeD d p f = d ∨ Rt (closeD d p f) := by
  by_cases h : numE d p f = 0
  · exact Or.inr (rt_close (check_rt (num_ok h).1))
  · exact Or.inl (by unfold closeD; rw [if_neg h])
theorem fork_or (d : De) (p q : Int) : forkD d p q = d ∨ Rt (forkD d p q) := by
  by_cases h : forkE d p q = 0
  · exact Or.inr (rt_fork (check_rt (fork_ok h).1))
  · exact Or.inl (by unfold forkD; rw [if_neg h])
theorem upd_or (d : De) (n f c : Int) : updD d n f c = d ∨ Rt (updD d n f c) := by
  by_cases h : updE d n f c = 0
  · refine Or.inr (rt_upd (check_rt ?_))
    cases hc : checkV d with
    | true => rfl
    | false => unfold updE at h; rw [if_pos hc] at h; cases h
  · exact Or.inl (by unfold updD; rw [if_neg h])
theorem new_sz {y : Dv} {p : Int} (e : y.pl = newD p) : DSz y := by
  by_cases h : 1 ≤ p ∧ p ≤ 8
  · exact (check_sz (rt_check (rt_new (p := p) (by unfold newE; rw [if_pos h])))).sz e
  · unfold newD at e
    rw [if_neg h] at e
    exact DSz.eq (x := Dv.nil) ⟨by simp [Dv.nil], by simp [Dv.nil], fun b hb => by cases hb⟩ e
/-- variables with descriptors (L), and others (M) -/
structure Vr (w W : World) (L : List (Nat × Dv)) (M : List (Nat × List Value)) : Prop where
  bel : Below w.heap.size w W
  box : ∀ p ∈ L, Bx W p.1 p.2
  di : ∀ p ∈ L, DIn W p.2
  out : ∀ p ∈ L, ∀ b, DBlk p.2 b → (∀ q ∈ L, b ≠ q.1) ∧ (∀ q ∈ M, b ≠ q.1)
  mt : ∀ q ∈ M, At W q.1 q.2
  lo : ∀ p ∈ L, w.heap.size ≤ p.1
  nd : L.Pairwise (fun p q => p.1 ≠ q.1)
  nm : ∀ p ∈ L, ∀ q ∈ M, p.1 ≠ q.1
theorem Vr.below {w W W' : World} {L : List (Nat × Dv)} {M : List (Nat × List Value)} (h : Vr w W L M) (hb : Below W.heap.size W W') : Vr w W' L M :=
  ⟨h.bel.trans (hb.mono h.bel.size), fun p hp => (h.box p hp).below hb (h.box p hp).at'.hi, fun p hp => (h.di p hp).below hb, h.out, fun q hq => (h.mt q hq).below hb (h.mt q hq).hi, h.lo, h.nd, h.nm⟩
/-- an answer lies apart from the variables -/
theorem Vr.apart {w W W2 : World} {L : List (Nat × Dv)} {M : List (Nat × List Value)} (h : Vr w W L M) {x z : Dv} (hx : (∃ D, (D, x) ∈ L) ∨ x = Dv.nil) (ha : DAns W x W2 z) (b : Nat) (hb : DBlk z b) : (∀ q ∈ L, b ≠ q.1) ∧ (∀ q ∈ M, b ≠ q.1) := by
  rcases ha.blk b hb with h1 | h1
  · rcases hx with ⟨D, hx⟩ | rfl
    · exact h.out _ hx b h1
    · rcases h1 with ⟨q, h1, _⟩ | ⟨q, h1, _⟩ | ⟨y, hy, _⟩
      · cases h1
      · cases h1
      · cases hy
  · exact ⟨fun q hq => by have := (h.box q hq).at'.hi; omega, fun q hq => by have := (h.mt q hq).hi; omega⟩
/-- a new variable -/
theorem Vr.new {w W W2 : World} {L : List (Nat × Dv)} {M : List (Nat × List Value)} (h : Vr w W L M) {x z : Dv} (hx : (∃ D, (D, x) ∈ L) ∨ x = Dv.nil) (hb : Below W.heap.size W W2) (ha : DAns W x W2 z) :
    Vr w (W2.alloc (.cells #[.slice z.oa z.o.length z.oc, .slice z.ta z.t.length z.tc] 29)) ((W2.heap.size, z) :: L) M := by
  have h2 := h.below hb
  have hb3 : Below W2.heap.size W2 (W2.alloc (.cells #[.slice z.oa z.o.length z.oc, .slice z.ta z.t.length z.tc] 29)) := (Below.refl _ _).alloc (Nat.le_refl _) _
  have h3 := h2.below hb3
  have hap := h.apart hx ha
  refine ⟨h3.bel, fun p hp => ?_, fun p hp => ?_, fun p hp b hb => ⟨fun q hq => ?_, fun q hq => ?_⟩, h3.mt, fun p hp => ?_, List.pairwise_cons.2 ⟨fun q hq => ?_, h.nd⟩, fun p hp q hq => ?_⟩
  · rcases List.mem_cons.1 hp with rfl | hp
    · exact Bx.new W2 z
    · exact h3.box p hp
  · rcases List.mem_cons.1 hp with rfl | hp
    · exact ha.di.below hb3
    · exact h3.di p hp
  · rcases List.mem_cons.1 hp with rfl | hp
    · rcases List.mem_cons.1 hq with rfl | hq
      · have := ha.di.blk hb; show b ≠ W2.heap.size; omega
      · exact (hap b hb).1 q hq
    · rcases List.mem_cons.1 hq with rfl | hq
      · have := (h2.di p hp).blk hb; show b ≠ W2.heap.size; omega
      · exact (h.out p hp b hb).1 q hq
  · rcases List.mem_cons.1 hp with rfl | hp
    · exact (hap b hb).2 q hq
    · exact (h.out p hp b hb).2 q hq
  · rcases List.mem_cons.1 hp with rfl | hp
    · exact h2.bel.size
    · exact h.lo p hp
  · have := (h2.box q hq).at'.hi; show W2.heap.size ≠ q.1; omega
  · rcases List.mem_cons.1 hp with rfl | hp
    · have := (h2.mt q hq).hi; show W2.heap.size ≠ q.1; omega
    · exact h.nm p hp q hq
/-- a new variable of another kind -/
theorem Vr.newM {w W : World} {L : List (Nat × Dv)} {M : List (Nat × List Value)} (h : Vr w W L M) (cs : List Value) (T : TypeId) : Vr w (W.alloc (.cells cs.toArray T)) L ((W.heap.size, cs) :: M) := by
  have h3 := h.below ((Below.refl _ _).alloc (Nat.le_refl _) (.cells cs.toArray T))
  refine ⟨h3.bel, h3.box, h3.di, fun p hp b hb => ⟨(h.out p hp b hb).1, fun q hq => ?_⟩, fun q hq => ?_, h.lo, h.nd, fun p hp q hq => ?_⟩
  · rcases List.mem_cons.1 hq with rfl | hq
    · have := (h.di p hp).blk hb; show b ≠ W.heap.size; omega
    · exact (h.out p hp b hb).2 q hq
  · rcases List.mem_cons.1 hq with rfl | hq
    · exact At.new W cs T
    · exact h3.mt q hq
  · rcases List.mem_cons.1 hq with rfl | hq
    · have := (h.box p hp).at'.hi; show p.1 ≠ W.heap.size; omega
    · exact h.nm p hp q hq
/-- a variable is written -/
theorem Vr.put {w W W2 : World} {L1 L2 : List (Nat × Dv)} {M : List (Nat × List Value)} {A : Nat} {y x z : Dv} (h : Vr w W (L1 ++ (A, y) :: L2) M) (hx : (∃ D, (D, x) ∈ L1 ++ (A, y) :: L2) ∨ x = Dv.nil) (hb : Below W.heap.size W W2) (ha : DAns W x W2 z) :
    Vr w ((W2.setCell ⟨A, 0, none⟩ (.slice z.oa z.o.length z.oc)).setCell ⟨A, 1, none⟩ (.slice z.ta z.t.length z.tc)) (L1 ++ (A, z) :: L2) M := by
  have h2 := h.below hb
  have hap := h.apart hx ha
  have hA : (A, y) ∈ L1 ++ (A, y) :: L2 := by simp
  have hnd := h.nd
  rw [List.pairwise_append, List.pairwise_cons] at hnd
  obtain ⟨n1, ⟨n2, n3⟩, n4⟩ := hnd
  have hne : ∀ p, p ∈ L1 ∨ p ∈ L2 → p.1 ≠ A := fun p hp => by
    rcases hp with hp | hp
    · exact n4 p hp (A, y) (by simp)
    · exact fun e => n2 p hp e.symm
  have hmem : ∀ {u : Dv} p, p ∈ L1 ++ (A, u) :: L2 → p = (A, u) ∨ ((p ∈ L1 ∨ p ∈ L2) ∧ p ∈ L1 ++ (A, y) :: L2) := fun {u} p hp => by
    rcases List.mem_append.1 hp with hp | hp
    · exact Or.inr ⟨Or.inl hp, by simp [hp]⟩
    · rcases List.mem_cons.1 hp with rfl | hp
      · exact Or.inl rfl
      · exact Or.inr ⟨Or.inr hp, by simp [hp]⟩
  have hfst : ∀ {u : Dv} (P : Nat → Prop), (∀ q ∈ L1 ++ (A, y) :: L2, P q.1) → ∀ q ∈ L1 ++ (A, u) :: L2, P q.1 := fun {u} P hP q hq => by
    rcases hmem q hq with rfl | ⟨_, hq⟩
    · exact hP (A, y) hA
    · exact hP q hq
  have hkp : ∀ {v : Dv}, DIn W2 v → (∀ b, DBlk v b → b ≠ A) → DIn ((W2.setCell ⟨A, 0, none⟩ (.slice z.oa z.o.length z.oc)).setCell ⟨A, 1, none⟩ (.slice z.ta z.t.length z.tc)) v := fun hv hn =>
    (hv.keepB (by simp [World.setCell]) fun b hb => Below.heap_setCell W2 ⟨A, 0, none⟩ _ b (hn b hb)).keepB (by simp [World.setCell]) fun b hb => Below.heap_setCell _ ⟨A, 1, none⟩ _ b (hn b hb)
  refine ⟨(h2.bel.setCell (p := ⟨A, 0, none⟩) (h.lo _ hA) _).setCell (p := ⟨A, 1, none⟩) (h.lo _ hA) _, fun p hp => ?_, fun p hp => ?_, fun p hp b hb => ?_, fun q hq => ?_, hfst _ h.lo, ?_, hfst (fun a => ∀ q ∈ M, a ≠ q.1) h.nm⟩
  · rcases hmem p hp with rfl | ⟨h1, h3⟩
    · exact (h2.box _ hA).put z
    · exact ((h2.box p h3).other (p := ⟨A, 0, none⟩) (hne p h1) _).other (p := ⟨A, 1, none⟩) (hne p h1) _
  · rcases hmem p hp with rfl | ⟨h1, h3⟩
    · exact hkp ha.di fun b hb => (hap b hb).1 _ hA
    · exact hkp (h2.di p h3) fun b hb => (h.out p h3 b hb).1 _ hA
  · rcases hmem p hp with rfl | ⟨h1, h3⟩
    · exact ⟨hfst _ (hap b hb).1, (hap b hb).2⟩
    · exact ⟨hfst _ (h.out p h3 b hb).1, (h.out p h3 b hb).2⟩
  · exact ((h2.mt q hq).setOther (x := ⟨A, 0, none⟩) (fun e => h.nm _ hA q hq e.symm) _).setOther (x := ⟨A, 1, none⟩) (fun e => h.nm _ hA q hq e.symm) _
  · rw [List.pairwise_append, List.pairwise_cons]
    exact ⟨n1, ⟨n2, n3⟩, fun p hp q hq => by
      rcases List.mem_cons.1 hq with rfl | hq
      · exact n4 p hp (A, y) (by simp)
      · exact n4 p hp q (by simp [hq])⟩
theorem Vr.cc {w W : World} {L : List (Nat × Dv)} {M : List (Nat × List Value)} (h : Vr w W L M) {D : Nat} {x : Dv} (hm : (D, x) ∈ L) : W.cell? ⟨D, 0, none⟩ = some (.slice x.oa x.o.length x.oc) ∧ W.cell? ⟨D, 1, none⟩ = some (.slice x.ta x.t.length x.tc) ∧ W.frozen? ⟨D, 0, none⟩ = false ∧ W.frozen? ⟨D, 1, none⟩ = false ∧ D < W.heap.size := Bx.cc (h.box _ hm)
theorem Vr.dn {w W : World} {L : List (Nat × Dv)} {M : List (Nat × List Value)} (h : Vr w W L M) {D : Nat} {x : Dv} (hm : (D, x) ∈ L) : DIn W x := h.di _ hm
theorem Vr.am {w W : World} {L : List (Nat × Dv)} {M : List (Nat × List Value)} (h : Vr w W L M) {X : Nat} {cs : List Value} (hm : (X, cs) ∈ M) : At W X cs := h.mt _ hm
/-- the tape, and variable D with x -/
structure Vd (w : World) (t D : Nat) (a : Option Addr) (len cap : Nat) (W : World) (x : Dv) : Prop where
  box : Bx W D x
  vi : Vi W [t, D] x
  tp : TP w t a len cap W
  hD : w.heap.size ≤ D
  hDt : D ≠ t
theorem Vd.tick {w W W' : World} {t D : Nat} {a : Option Addr} {len cap : Nat} {x : Dv} (h : Vd w t D a len cap W x) (hk : Tick t W W') (hp : TP w t a len cap W') : Vd w t D a len cap W' x :=
  ⟨h.box.tick hk h.hDt, h.vi.tick hk (by simp), hp, h.hD, h.hDt⟩
theorem Vd.tock {w W W' : World} {t D : Nat} {a : Option Addr} {len cap : Nat} {x : Dv} (h : Vd w t D a len cap W x) (hk : Tock t W W') (hp : TP w t a len cap W') : Vd w t D a len cap W' x :=
  ⟨h.box.tock hk h.hDt, h.vi.tock hk (by simp), hp, h.hD, h.hDt⟩
theorem Vd.vr {w W : World} {t D : Nat} {a : Option Addr} {len cap : Nat} {x : Dv} (h : Vd w t D a len cap W x) : Vr w W [(D, x)] [] := by
  refine ⟨h.tp.bel, ?_, ?_, ?_, ?_, ?_, ?_, ?_⟩
  · intro p hp; simp at hp; subst hp; exact h.box
  · intro p hp; simp at hp; subst hp; exact h.vi.di
  · intro p hp b hb; simp at hp; subst hp
    refine ⟨fun q hq => ?_, fun q hq => by cases hq⟩
    simp at hq; subst hq
    exact fun e => h.vi.out b hb (by rw [e]; simp)
  · intro q hq; cases hq
  · intro p hp; simp at hp; subst hp; exact h.hD
  · simp
  · intro p _ q hq; cases hq
theorem tape_start2 (w : World) (a : Option Addr) (len cap : Nat) (ha : ArgRow w a len) (hl : len ≤ maxLen) : TP w w.heap.size a len cap (w.alloc (.cells #[.slice a len cap, .int .i64 0] 25)) :=
  ⟨0, ha, Nat.le_refl _, by simp, (Below.refl _ _).alloc (Nat.le_refl _) _, by simp, by simp, by simp, Nat.zero_le _, hl⟩
theorem look_c (x : Dv) (p f n q : Int) (b : Dn) (w : World) (h : DIn w x) (hz : DSz x) (hn : n = numV x.pl p f ∧ q = numE x.pl p f ∧ b = lookV x.pl p f) :
    Calls Try.prog 19 #[.agg #[.slice x.oa x.o.length x.oc, .slice x.ta x.t.length x.tc], .int .i64 p, .int .i64 f] w (RetW (.tuple #[.int .i64 n, .agg #[.int .i64 b.fi, .int .i64 b.fl, .int .i64 b.f, .int .i64 b.cu, .int .i64 b.rf], .int .i64 q]) w) ∧
    Calls Try.prog 20 #[.agg #[.slice x.oa x.o.length x.oc, .slice x.ta x.t.length x.tc], .int .i64 p, .int .i64 f] w (RetW (.tuple #[.int .i64 n, .agg #[.int .i64 b.fi, .int .i64 b.fl, .int .i64 b.f, .int .i64 b.cu, .int .i64 b.rf], .int .i64 q]) w) := by
  obtain ⟨rfl, rfl, rfl⟩ := hn
  exact ⟨lookup_any x p f w h hz, lookupR_any x p f w h hz⟩
theorem same_c (x z : Dv) (w : World) (hx : DIn w x) (hz : DIn w z) (hxz : z.pl = x.pl) (hs : DSz x) : Calls Try.prog 14 #[.agg #[.slice x.oa x.o.length x.oc, .slice x.ta x.t.length x.tc], .agg #[.slice z.oa z.o.length z.oc, .slice z.ta z.t.length z.tc]] w (RetW (.bool true) w) := same_any x z w hx hz hxz hs
theorem check_c (x : Dv) (c : Bool) (w : World) (h : DIn w x) (hz : DSz x) (hc : c = checkV x.pl) :
    Calls Try.prog 23 #[.agg #[.slice x.oa x.o.length x.oc, .slice x.ta x.t.length x.tc]] w (RetW (.bool c) w) ∧ Calls Try.prog 24 #[.agg #[.slice x.oa x.o.length x.oc, .slice x.ta x.t.length x.tc]] w (RetW (.bool c) w) := by
  subst hc
  exact ⟨check_any' x w h hz.o hz.t, checkR_any' x w h hz.o hz.t⟩
set_option maxRecDepth 100000 in
set_option maxHeartbeats 16000000 in
theorem calls_walk (a0 : Option Addr) (len0 cap0 : Nat) (w : World) (ha : ArgRow w a0 len0) (hl : len0 ≤ maxLen) :
    Calls Try.prog 3 #[.slice a0 len0 cap0] w (RetW (.bool true) w) := by
  have HT : Hid (TP w w.heap.size a0 len0 cap0 (w.alloc (.cells #[.slice a0 len0 cap0, .int .i64 0] 25))) := tape_start2 w a0 len0 cap0 ha hl
  have HN : Hid (∀ n W, 1 ≤ n → n ≤ 1000000 → TP w w.heap.size a0 len0 cap0 W → Calls Try.prog 8 #[.pointer (some ⟨w.heap.size, 0, none⟩), .int .i64 n] W fun e w' => ∃ r : Int, 0 ≤ r ∧ r < n ∧ e = .returned (.int .i64 r) ∧ Tick w.heap.size W w' ∧ TP w w.heap.size a0 len0 cap0 w') := fun n W h1 h2 h3 => next_tp n w W _ _ _ _ h1 h2 h3
  have HOdd : Hid (∀ W, TP w w.heap.size a0 len0 cap0 W → Calls Try.prog 9 #[.pointer (some ⟨w.heap.size, 0, none⟩)] W fun e w' => ∃ r : Int, -9223372036854775808 ≤ r ∧ r ≤ 9223372036854775807 ∧ e = .returned (.int .i64 r) ∧ Tock w.heap.size W w' ∧ TP w w.heap.size a0 len0 cap0 w') := fun W h1 => odd_any w W _ _ _ _ h1
  go_enter Try.func3, Try.ntmps3
  go_wp2_with fail
  generalize w.alloc (.cells #[.slice a0 len0 cap0, .int .i64 0] 25) = w1 at *
  refine (drawn_any _ _ _ _ _ _ HT.out).mono ?_
  rintro e w2 ⟨x, rfl, hsz, ht1, ht8, hdi, hlo, hk, tp⟩
  have htl := HT.out.hi
  have hs1 := hk.size
  have hb4 : Below w2.heap.size w2 (w2.alloc (Obj.cells #[.slice x.oa x.o.length x.oc, .slice x.ta x.t.length x.tc] 29)) := (Below.refl _ _).alloc (Nat.le_refl _) _
  have HD : Hid (Vd w w.heap.size w2.heap.size a0 len0 cap0 (w2.alloc (Obj.cells #[.slice x.oa x.o.length x.oc, .slice x.ta x.t.length x.tc] 29)) x) := by
    refine ⟨Bx.new w2 x, ⟨hdi.below hb4, fun b hb hm => ?_⟩, tp.below hb4 tp.hi, by omega, by omega⟩
    have h1 := hlo b hb
    have h2 := hdi.blk hb
    simp only [List.mem_cons, List.not_mem_nil, or_false] at hm
    omega
  have HS := Lib.hid hsz
  clear HT hdi hlo hk tp htl hs1 hb4 hsz
  go_upto_region 3 with (fail)
  generalize w2.alloc (Obj.cells #[.slice x.oa x.o.length x.oc, .slice x.ta x.t.length x.tc] 29) = w3 at *
  generalize w2.heap.size = D at *
  have hT1 : 1 ≤ (x.t.length : Int) := by omega
  have hT8 : (x.t.length : Int) ≤ 8 := by omega
  clear ht1 ht8
  obtain ⟨x0, x1, x2, x3, x4⟩ := HD.out.box.cc
  go_wp2_with fail
  refine (HN.out _ _ (by omega) (by omega) HD.out.tp).mono ?_
  rintro e wa ⟨ra, ra0, ra1, rfl, hk, tp⟩
  replace HD := Lib.hid (HD.out.tick hk tp)
  clear hk tp
  clear x0 x1 x2 x3 x4
  go_wp2_with fail
  refine (HN.out 6 _ (by omega) (by omega) HD.out.tp).mono ?_
  rintro e wb ⟨rb, rb0, rb1, rfl, hk, tp⟩
  replace HD := Lib.hid (HD.out.tick hk tp)
  clear hk tp
  go_wp2_with fail
  refine (HN.out 6 _ (by omega) (by omega) HD.out.tp).mono ?_
  rintro e wc ⟨rc, rc0, rc1, rfl, hk, tp⟩
  replace HD := Lib.hid (HD.out.tick hk tp)
  clear hk tp
  go_wp2_with fail
  refine (HN.out 4 _ (by omega) (by omega) HD.out.tp).mono ?_
  rintro e wd ⟨rd, rd0, rd1, rfl, hk, tp⟩
  replace HD := Lib.hid (HD.out.tick hk tp)
  clear hk tp
  go_wp2_with fail
  refine (HN.out 9 _ (by omega) (by omega) HD.out.tp).mono ?_
  rintro e we ⟨re, re0, re1, rfl, hk, tp⟩
  replace HD := Lib.hid (HD.out.tick hk tp)
  clear hk tp
  go_wp2_with fail
  refine (HN.out 5 _ (by omega) (by omega) HD.out.tp).mono ?_
  rintro e wf ⟨rf, rf0, rf1, rfl, hk, tp⟩
  replace HD := Lib.hid (HD.out.tick hk tp)
  clear hk tp
  go_wp2_with fail
  refine (HN.out 9 _ (by omega) (by omega) HD.out.tp).mono ?_
  rintro e wg ⟨rg, rg0, rg1, rfl, hk, tp⟩
  replace HD := Lib.hid (HD.out.tick hk tp)
  clear hk tp
  go_upto_block 0 with (fail)
  go_cut [6, 7, 8, 10] (fun s6 s7 s8 s10 wx => ∃ f n fi c : Int, s6 = .int .i64 f ∧ s7 = .int .i64 n ∧ s8 = .int .i64 fi ∧ s10 = .int .i64 c ∧ Hid (Vd w w.heap.size D a0 len0 cap0 wx x))
  case first => as_aux_lemma =>
    by_cases g0 : rg = 0
    · subst g0
      go_wp2_with fail
      refine (HOdd.out _ HD.out.tp).mono ?_
      rintro e wh ⟨rh, rh0, rh1, rfl, hk, tp⟩
      replace HD := Lib.hid (HD.out.tock hk tp)
      clear hk tp
      go_wp2_with fail
      refine (HOdd.out _ HD.out.tp).mono ?_
      rintro e wi ⟨ri, ri0, ri1, rfl, hk, tp⟩
      replace HD := Lib.hid (HD.out.tock hk tp)
      clear hk tp
      go_wp2_with fail
      go_meet
      exact ⟨_, _, _, _, rfl, rfl, rfl, rfl, HD⟩
    have n0 : (rg == 0) = false := by simpa using g0
    by_cases g1 : rg = 1
    · subst g1
      go_wp2_with fail
      refine (HOdd.out _ HD.out.tp).mono ?_
      rintro e wh ⟨rh, rh0, rh1, rfl, hk, tp⟩
      replace HD := Lib.hid (HD.out.tock hk tp)
      clear hk tp
      go_wp2_with fail
      refine (HOdd.out _ HD.out.tp).mono ?_
      rintro e wi ⟨ri, ri0, ri1, rfl, hk, tp⟩
      replace HD := Lib.hid (HD.out.tock hk tp)
      clear hk tp
      go_wp2_with fail
      go_meet
      exact ⟨_, _, _, _, rfl, rfl, rfl, rfl, HD⟩
    have n1 : (rg == 1) = false := by simpa using g1
    go_wp2_with fail
    go_meet
    exact ⟨_, _, _, _, rfl, rfl, rfl, rfl, HD⟩
  case rest => as_aux_lemma =>
    clear HD
    obtain ⟨f, n, fi, c, rfl, rfl, rfl, rfl, HD⟩ := hcut
    go_wp2_with fail
    refine (HN.out 140 _ (by omega) (by omega) HD.out.tp).mono ?_
    rintro e wj ⟨rj, rj0, rj1, rfl, hk, tp⟩
    replace HD := Lib.hid (HD.out.tick hk tp)
    clear hk tp
    go_wp2_with fail
    refine (HN.out 9 _ (by omega) (by omega) HD.out.tp).mono ?_
    rintro e wk ⟨rk, rk0, rk1, rfl, hk, tp⟩
    replace HD := Lib.hid (HD.out.tick hk tp)
    clear hk tp
    go_upto_region 11 with (fail)
    have HV := Lib.hid (HD.out.vr.newM [.int .i64 1, .int .i64 0, .int .i64 (rj - 2), .int .i64 (rk - 1), .int .i64 5] 34)
    generalize World.alloc _ (Obj.cells #[.int .i64 1, .int .i64 0, .int .i64 (rj - 2), .int .i64 (rk - 1), .int .i64 5] 34) = w5 at *
    generalize wk.heap.size = X at *
    generalize rj - 2 = xo at *
    generalize rk - 1 = xc at *
    generalize ra - 1 = p at *
    clear HD HN HOdd hT1 hT8
    obtain ⟨D0, D1, D2, D3, D4⟩ := HV.out.cc (D := D) (x := x) (by simp)
    go_wp2_with fail
    refine (open_v x _ _ _ _ _ (HV.out.dn (D := D) (by simp)) HS.out).mono ?_
    rintro e v1 ⟨y1, rfl, hpl, ha, hb⟩
    clear D0 D1 D2 D3 D4
    have HV2 := Lib.hid (HV.out.new (Or.inl ⟨D, by simp⟩) hb ha)
    replace HV := Lib.hid (HV.out.below hb)
    go_upto_region 12 with (fail)
    replace HV := HV2
    clear HV2 ha hb
    generalize v1.alloc (Obj.cells #[.slice y1.oa y1.o.length y1.oc, .slice y1.ta y1.t.length y1.tc] 29) = u2 at *
    generalize v1.heap.size = A at *
    as_aux_lemma =>
    have HP1 := Lib.hid hpl
    clear hpl
    obtain ⟨D0, D1, D2, D3, D4⟩ := HV.out.cc (D := D) (x := x) (by simp)
    go_wp2_with fail
    refine (openR_v x _ _ _ _ _ (HV.out.dn (D := D) (by simp)) HS.out).mono ?_
    rintro e v3 ⟨y2, rfl, hpl, ha, hb⟩
    clear D0 D1 D2 D3 D4
    have HV2 := Lib.hid (HV.out.new (Or.inl ⟨D, by simp⟩) hb ha)
    replace HV := Lib.hid (HV.out.below hb)
    go_upto_region 13 with (fail)
    replace HV := HV2
    clear HV2 ha hb
    generalize v3.alloc (Obj.cells #[.slice y2.oa y2.o.length y2.oc, .slice y2.ta y2.t.length y2.tc] 29) = u4 at *
    generalize v3.heap.size = B at *
    as_aux_lemma =>
    have HE1 : Hid (y2.pl = y1.pl) := hpl.trans HP1.out.symm
    have HS1 : Hid (DSz y1) := sz_of HS.out HP1.out (open_or _ _ _ _ _)
    clear hpl HP1
    obtain ⟨D0, D1, D2, D3, D4⟩ := HV.out.cc (D := D) (x := x) (by simp)
    go_wp2_with fail
    refine (dup_v x _ _ _ (HV.out.dn (D := D) (by simp)) HS.out).mono ?_
    rintro e v5 ⟨y3, rfl, hpl, ha, hb⟩
    clear D0 D1 D2 D3 D4
    have HV2 := Lib.hid (HV.out.new (Or.inl ⟨D, by simp⟩) hb ha)
    replace HV := Lib.hid (HV.out.below hb)
    go_upto_region 14 with (fail)
    replace HV := HV2
    clear HV2 ha hb
    generalize v5.alloc (Obj.cells #[.slice y3.oa y3.o.length y3.oc, .slice y3.ta y3.t.length y3.tc] 29) = u6 at *
    generalize v5.heap.size = C at *
    as_aux_lemma =>
    have HP1 := Lib.hid hpl
    clear hpl
    obtain ⟨D0, D1, D2, D3, D4⟩ := HV.out.cc (D := D) (x := x) (by simp)
    go_wp2_with fail
    refine (dupR_v x _ _ _ (HV.out.dn (D := D) (by simp)) HS.out).mono ?_
    rintro e v7 ⟨y4, rfl, hpl, ha, hb⟩
    clear D0 D1 D2 D3 D4
    have HV2 := Lib.hid (HV.out.new (Or.inl ⟨D, by simp⟩) hb ha)
    replace HV := Lib.hid (HV.out.below hb)
    go_upto_region 15 with (fail)
    replace HV := HV2
    clear HV2 ha hb
    generalize v7.alloc (Obj.cells #[.slice y4.oa y4.o.length y4.oc, .slice y4.ta y4.t.length y4.tc] 29) = u8 at *
    generalize v7.heap.size = U at *
    as_aux_lemma =>
    have HE2 : Hid (y4.pl = y3.pl) := hpl.trans HP1.out.symm
    have HS2 : Hid (DSz y3) := sz_of HS.out HP1.out (dup_or _ _ _)
    clear hpl HP1
    generalize openF x.pl _ _ _ _ = oF at *
    generalize openE x.pl _ _ _ _ = oE at *
    generalize dupF x.pl _ _ = uF at *
    generalize dupE x.pl _ _ = uE at *
    obtain ⟨A0, A1, A2, A3, A4⟩ := HV.out.cc (D := A) (x := y1) (by simp)
    obtain ⟨B0, B1, B2, B3, B4⟩ := HV.out.cc (D := B) (x := y2) (by simp)
    go_wp2_with fail
    refine (same_c y1 y2 _ (HV.out.dn (D := A) (by simp)) (HV.out.dn (D := B) (by simp)) HE1.out HS1.out).mono ?_
    rintro e v9 ⟨rfl, hb⟩
    clear A0 A1 A2 A3 A4 B0 B1 B2 B3 B4
    replace HV := Lib.hid (HV.out.below hb)
    clear hb
    obtain ⟨C0, C1, C2, C3, C4⟩ := HV.out.cc (D := C) (x := y3) (by simp)
    obtain ⟨U0, U1, U2, U3, U4⟩ := HV.out.cc (D := U) (x := y4) (by simp)
    go_wp2_with fail
    refine (same_c y3 y4 _ (HV.out.dn (D := C) (by simp)) (HV.out.dn (D := U) (by simp)) HE2.out HS2.out).mono ?_
    rintro e v10 ⟨rfl, hb⟩
    clear C0 C1 C2 C3 C4 U0 U1 U2 U3 U4
    replace HV := Lib.hid (HV.out.below hb)
    clear hb
    clear HE1 HE2 HS1 HS2
    obtain ⟨D0, D1, D2, D3, D4⟩ := HV.out.cc (D := D) (x := x) (by simp)
    go_wp2_with fail
    refine (fork_v x _ _ _ (HV.out.dn (D := D) (by simp)) HS.out).mono ?_
    rintro e v11 ⟨y5, rfl, hpl, ha, hb⟩
    clear D0 D1 D2 D3 D4
    have HV2 : Hid (Vr w _ [(U, y4), (C, y3), (B, y2), (A, y5), (D, x)] [(X, [.int .i64 1, .int .i64 0, .int .i64 xo, .int .i64 xc, .int .i64 5])]) := HV.out.put (L1 := [(U, y4), (C, y3), (B, y2)]) (L2 := [(D, x)]) (Or.inl ⟨D, by simp⟩) hb ha
    replace HV := Lib.hid (HV.out.below hb)
    obtain ⟨A0, A1, A2, A3, A4⟩ := HV.out.cc (D := A) (x := y1) (by simp)
    go_upto_region 18 with (fail)
    replace HV := HV2
    clear HV2 ha hb A0 A1 A2 A3 A4
    generalize ((v11.setCell ⟨A, 0, none⟩ (.slice y5.oa y5.o.length y5.oc)).setCell ⟨A, 1, none⟩ (.slice y5.ta y5.t.length y5.tc)) = u12 at *
    as_aux_lemma =>
    have HP1 := Lib.hid hpl
    clear hpl
    obtain ⟨D0, D1, D2, D3, D4⟩ := HV.out.cc (D := D) (x := x) (by simp)
    go_wp2_with fail
    refine (forkR_v x _ _ _ (HV.out.dn (D := D) (by simp)) HS.out).mono ?_
    rintro e v13 ⟨y6, rfl, hpl, ha, hb⟩
    clear D0 D1 D2 D3 D4
    have HV2 : Hid (Vr w _ [(U, y4), (C, y3), (B, y6), (A, y5), (D, x)] [(X, [.int .i64 1, .int .i64 0, .int .i64 xo, .int .i64 xc, .int .i64 5])]) := HV.out.put (L1 := [(U, y4), (C, y3)]) (L2 := [(A, y5), (D, x)]) (Or.inl ⟨D, by simp⟩) hb ha
    replace HV := Lib.hid (HV.out.below hb)
    obtain ⟨B0, B1, B2, B3, B4⟩ := HV.out.cc (D := B) (x := y2) (by simp)
    go_upto_region 19 with (fail)
    replace HV := HV2
    clear HV2 ha hb B0 B1 B2 B3 B4
    generalize ((v13.setCell ⟨B, 0, none⟩ (.slice y6.oa y6.o.length y6.oc)).setCell ⟨B, 1, none⟩ (.slice y6.ta y6.t.length y6.tc)) = u14 at *
    as_aux_lemma =>
    have HE1 : Hid (y6.pl = y5.pl) := hpl.trans HP1.out.symm
    have HS1 : Hid (DSz y5) := sz_of HS.out HP1.out (fork_or _ _ _)
    clear hpl HP1
    obtain ⟨D0, D1, D2, D3, D4⟩ := HV.out.cc (D := D) (x := x) (by simp)
    go_wp2_with fail
    refine (close_v x _ _ _ (HV.out.dn (D := D) (by simp)) HS.out).mono ?_
    rintro e v15 ⟨y7, rfl, hpl, ha, hb⟩
    clear D0 D1 D2 D3 D4
    have HV2 : Hid (Vr w _ [(U, y4), (C, y7), (B, y6), (A, y5), (D, x)] [(X, [.int .i64 1, .int .i64 0, .int .i64 xo, .int .i64 xc, .int .i64 5])]) := HV.out.put (L1 := [(U, y4)]) (L2 := [(B, y6), (A, y5), (D, x)]) (Or.inl ⟨D, by simp⟩) hb ha
    replace HV := Lib.hid (HV.out.below hb)
    obtain ⟨C0, C1, C2, C3, C4⟩ := HV.out.cc (D := C) (x := y3) (by simp)
    go_upto_region 20 with (fail)
    replace HV := HV2
    clear HV2 ha hb C0 C1 C2 C3 C4
    generalize ((v15.setCell ⟨C, 0, none⟩ (.slice y7.oa y7.o.length y7.oc)).setCell ⟨C, 1, none⟩ (.slice y7.ta y7.t.length y7.tc)) = u16 at *
    as_aux_lemma =>
    have HP1 := Lib.hid hpl
    clear hpl
    obtain ⟨D0, D1, D2, D3, D4⟩ := HV.out.cc (D := D) (x := x) (by simp)
    go_wp2_with fail
    refine (closeR_v x _ _ _ (HV.out.dn (D := D) (by simp)) HS.out).mono ?_
    rintro e v17 ⟨y8, rfl, hpl, ha, hb⟩
    clear D0 D1 D2 D3 D4
    have HV2 : Hid (Vr w _ [(U, y8), (C, y7), (B, y6), (A, y5), (D, x)] [(X, [.int .i64 1, .int .i64 0, .int .i64 xo, .int .i64 xc, .int .i64 5])]) := HV.out.put (L1 := []) (L2 := [(C, y7), (B, y6), (A, y5), (D, x)]) (Or.inl ⟨D, by simp⟩) hb ha
    replace HV := Lib.hid (HV.out.below hb)
    obtain ⟨U0, U1, U2, U3, U4⟩ := HV.out.cc (D := U) (x := y4) (by simp)
    go_upto_region 21 with (fail)
    replace HV := HV2
    clear HV2 ha hb U0 U1 U2 U3 U4
    generalize ((v17.setCell ⟨U, 0, none⟩ (.slice y8.oa y8.o.length y8.oc)).setCell ⟨U, 1, none⟩ (.slice y8.ta y8.t.length y8.tc)) = u18 at *
    as_aux_lemma =>
    have HE2 : Hid (y8.pl = y7.pl) := hpl.trans HP1.out.symm
    have HS2 : Hid (DSz y7) := sz_of HS.out HP1.out (close_or _ _ _)
    clear hpl HP1
    generalize forkE x.pl _ _ = kE at *
    generalize closeG x.pl _ _ = cG at *
    generalize numE x.pl _ _ = cE at *
    obtain ⟨A0, A1, A2, A3, A4⟩ := HV.out.cc (D := A) (x := y5) (by simp)
    obtain ⟨B0, B1, B2, B3, B4⟩ := HV.out.cc (D := B) (x := y6) (by simp)
    go_wp2_with fail
    refine (same_c y5 y6 _ (HV.out.dn (D := A) (by simp)) (HV.out.dn (D := B) (by simp)) HE1.out HS1.out).mono ?_
    rintro e v19 ⟨rfl, hb⟩
    clear A0 A1 A2 A3 A4 B0 B1 B2 B3 B4
    replace HV := Lib.hid (HV.out.below hb)
    clear hb
    obtain ⟨C0, C1, C2, C3, C4⟩ := HV.out.cc (D := C) (x := y7) (by simp)
    obtain ⟨U0, U1, U2, U3, U4⟩ := HV.out.cc (D := U) (x := y8) (by simp)
    go_wp2_with fail
    refine (same_c y7 y8 _ (HV.out.dn (D := C) (by simp)) (HV.out.dn (D := U) (by simp)) HE2.out HS2.out).mono ?_
    rintro e v20 ⟨rfl, hb⟩
    clear C0 C1 C2 C3 C4 U0 U1 U2 U3 U4
    replace HV := Lib.hid (HV.out.below hb)
    clear hb
    clear HE1 HE2 HS1 HS2
    obtain ⟨m, q, b, hm⟩ : ∃ (m q : Int) (b : Dn), m = numV x.pl p f ∧ q = numE x.pl p f ∧ b = lookV x.pl p f := ⟨_, _, _, rfl, rfl, rfl⟩
    have HM := Lib.hid hm
    clear hm
    obtain ⟨D0, D1, D2, D3, D4⟩ := HV.out.cc (D := D) (x := x) (by simp)
    go_wp2_with fail
    refine ((look_c x p f m q b _ (HV.out.dn (D := D) (by simp)) HS.out HM.out).1).mono ?_
    rintro e v21 ⟨rfl, hb⟩
    clear D0 D1 D2 D3 D4
    replace HV := Lib.hid (HV.out.below hb)
    clear hb
    go_upto_region 24 with (fail)
    replace HV := Lib.hid (HV.out.newM [.int .i64 b.fi, .int .i64 b.fl, .int .i64 b.f, .int .i64 b.cu, .int .i64 b.rf] 34)
    generalize v21.alloc (Obj.cells #[.int .i64 b.fi, .int .i64 b.fl, .int .i64 b.f, .int .i64 b.cu, .int .i64 b.rf] 34) = u22 at *
    generalize v21.heap.size = Y at *
    as_aux_lemma =>
    obtain ⟨D0, D1, D2, D3, D4⟩ := HV.out.cc (D := D) (x := x) (by simp)
    go_wp2_with fail
    refine ((look_c x p f m q b _ (HV.out.dn (D := D) (by simp)) HS.out HM.out).2).mono ?_
    rintro e v23 ⟨rfl, hb⟩
    clear D0 D1 D2 D3 D4
    replace HV := Lib.hid (HV.out.below hb)
    clear hb
    go_upto_region 25 with (fail)
    replace HV := Lib.hid (HV.out.newM [.int .i64 b.fi, .int .i64 b.fl, .int .i64 b.f, .int .i64 b.cu, .int .i64 b.rf] 34)
    generalize v23.alloc (Obj.cells #[.int .i64 b.fi, .int .i64 b.fl, .int .i64 b.f, .int .i64 b.cu, .int .i64 b.rf] 34) = u24 at *
    generalize v23.heap.size = Z at *
    as_aux_lemma =>
    clear HM
    obtain ⟨D0, D1, D2, D3, D4⟩ := HV.out.cc (D := D) (x := x) (by simp)
    obtain ⟨⟨X0, X1, X2, X3, X4⟩, _, _⟩ := (HV.out.am (X := X) (cs := [.int .i64 1, .int .i64 0, .int .i64 xo, .int .i64 xc, .int .i64 5]) (by simp)).five
    go_wp2_with fail
    refine (upd_v x _ _ _ _ _ _ _ (HV.out.dn (D := D) (by simp)) HS.out).mono ?_
    rintro e v25 ⟨y9, rfl, hpl, ha, hb⟩
    clear D0 D1 D2 D3 D4
    clear X0 X1 X2 X3 X4
    have HV2 : Hid (Vr w _ [(U, y8), (C, y7), (B, y6), (A, y9), (D, x)] [(Z, [.int .i64 b.fi, .int .i64 b.fl, .int .i64 b.f, .int .i64 b.cu, .int .i64 b.rf]), (Y, [.int .i64 b.fi, .int .i64 b.fl, .int .i64 b.f, .int .i64 b.cu, .int .i64 b.rf]), (X, [.int .i64 1, .int .i64 0, .int .i64 xo, .int .i64 xc, .int .i64 5])]) := HV.out.put (L1 := [(U, y8), (C, y7), (B, y6)]) (L2 := [(D, x)]) (Or.inl ⟨D, by simp⟩) hb ha
    replace HV := Lib.hid (HV.out.below hb)
    obtain ⟨A0, A1, A2, A3, A4⟩ := HV.out.cc (D := A) (x := y5) (by simp)
    go_upto_region 26 with (fail)
    replace HV := HV2
    clear HV2 ha hb A0 A1 A2 A3 A4
    generalize ((v25.setCell ⟨A, 0, none⟩ (.slice y9.oa y9.o.length y9.oc)).setCell ⟨A, 1, none⟩ (.slice y9.ta y9.t.length y9.tc)) = u26 at *
    as_aux_lemma =>
    have HP1 := Lib.hid hpl
    clear hpl
    obtain ⟨D0, D1, D2, D3, D4⟩ := HV.out.cc (D := D) (x := x) (by simp)
    obtain ⟨⟨X0, X1, X2, X3, X4⟩, _, _⟩ := (HV.out.am (X := X) (cs := [.int .i64 1, .int .i64 0, .int .i64 xo, .int .i64 xc, .int .i64 5]) (by simp)).five
    go_wp2_with fail
    refine (updR_v x _ _ _ _ _ _ _ (HV.out.dn (D := D) (by simp)) HS.out).mono ?_
    rintro e v27 ⟨z1, rfl, hpl, ha, hb⟩
    clear D0 D1 D2 D3 D4
    clear X0 X1 X2 X3 X4
    have HV2 : Hid (Vr w _ [(U, y8), (C, y7), (B, z1), (A, y9), (D, x)] [(Z, [.int .i64 b.fi, .int .i64 b.fl, .int .i64 b.f, .int .i64 b.cu, .int .i64 b.rf]), (Y, [.int .i64 b.fi, .int .i64 b.fl, .int .i64 b.f, .int .i64 b.cu, .int .i64 b.rf]), (X, [.int .i64 1, .int .i64 0, .int .i64 xo, .int .i64 xc, .int .i64 5])]) := HV.out.put (L1 := [(U, y8), (C, y7)]) (L2 := [(A, y9), (D, x)]) (Or.inl ⟨D, by simp⟩) hb ha
    replace HV := Lib.hid (HV.out.below hb)
    obtain ⟨B0, B1, B2, B3, B4⟩ := HV.out.cc (D := B) (x := y6) (by simp)
    go_upto_region 27 with (fail)
    replace HV := HV2
    clear HV2 ha hb B0 B1 B2 B3 B4
    generalize ((v27.setCell ⟨B, 0, none⟩ (.slice z1.oa z1.o.length z1.oc)).setCell ⟨B, 1, none⟩ (.slice z1.ta z1.t.length z1.tc)) = u28 at *
    as_aux_lemma =>
    have HE1 : Hid (z1.pl = y9.pl) := hpl.trans HP1.out.symm
    have HS1 : Hid (DSz y9) := sz_of HS.out HP1.out (upd_or _ _ _ _)
    clear hpl HP1
    generalize updE x.pl _ _ _ = gE at *
    obtain ⟨ck, hck⟩ : ∃ ck, ck = checkV x.pl := ⟨_, rfl⟩
    have HCK := Lib.hid hck
    clear hck
    replace HV := Lib.hid (HV.out.below (Below.refl _ _).drew)
    obtain ⟨A0, A1, A2, A3, A4⟩ := HV.out.cc (D := A) (x := y9) (by simp); obtain ⟨B0, B1, B2, B3, B4⟩ := HV.out.cc (D := B) (x := z1) (by simp); obtain ⟨D0, D1, D2, D3, D4⟩ := HV.out.cc (D := D) (x := x) (by simp); obtain ⟨⟨Y0, Y1, Y2, Y3, Y4⟩, _, _⟩ := (HV.out.am (X := Y) (cs := [.int .i64 b.fi, .int .i64 b.fl, .int .i64 b.f, .int .i64 b.cu, .int .i64 b.rf]) (by simp)).five; obtain ⟨⟨Z0, Z1, Z2, Z3, Z4⟩, _, _⟩ := (HV.out.am (X := Z) (cs := [.int .i64 b.fi, .int .i64 b.fl, .int .i64 b.f, .int .i64 b.cu, .int .i64 b.rf]) (by simp)).five
    (first | go_region_held3 (fun w' => w'.cell? ⟨A, 0, none⟩ = some (.slice y9.oa y9.o.length y9.oc) ∧ w'.cell? ⟨A, 1, none⟩ = some (.slice y9.ta y9.t.length y9.tc) ∧ w'.cell? ⟨B, 0, none⟩ = some (.slice z1.oa z1.o.length z1.oc) ∧ w'.cell? ⟨B, 1, none⟩ = some (.slice z1.ta z1.t.length z1.tc) ∧ w'.cell? ⟨D, 0, none⟩ = some (.slice x.oa x.o.length x.oc) ∧ w'.cell? ⟨D, 1, none⟩ = some (.slice x.ta x.t.length x.tc) ∧ w'.cell? ⟨Y, 0, none⟩ = some (.int .i64 b.fi) ∧ w'.cell? ⟨Y, 1, none⟩ = some (.int .i64 b.fl) ∧ w'.cell? ⟨Y, 2, none⟩ = some (.int .i64 b.f) ∧ w'.cell? ⟨Y, 3, none⟩ = some (.int .i64 b.cu) ∧ w'.cell? ⟨Y, 4, none⟩ = some (.int .i64 b.rf) ∧ w'.cell? ⟨Z, 0, none⟩ = some (.int .i64 b.fi) ∧ w'.cell? ⟨Z, 1, none⟩ = some (.int .i64 b.fl) ∧ w'.cell? ⟨Z, 2, none⟩ = some (.int .i64 b.f) ∧ w'.cell? ⟨Z, 3, none⟩ = some (.int .i64 b.cu) ∧ w'.cell? ⟨Z, 4, none⟩ = some (.int .i64 b.rf)) (go_keep) (first | (go_at_call 14; refine (same_c y9 z1 _ (HV.out.dn (D := A) (by simp)) (HV.out.dn (D := B) (by simp)) HE1.out HS1.out).mono ?_; rintro e wa1 ⟨rfl, hb⟩; replace HV := Lib.hid (HV.out.below hb); clear hb; clear A0 A1 A2 A3 A4 B0 B1 B2 B3 B4 D0 D1 D2 D3 D4 Y0 Y1 Y2 Y3 Y4 Z0 Z1 Z2 Z3 Z4; obtain ⟨A0, A1, A2, A3, A4⟩ := HV.out.cc (D := A) (x := y9) (by simp); obtain ⟨B0, B1, B2, B3, B4⟩ := HV.out.cc (D := B) (x := z1) (by simp); obtain ⟨D0, D1, D2, D3, D4⟩ := HV.out.cc (D := D) (x := x) (by simp); obtain ⟨⟨Y0, Y1, Y2, Y3, Y4⟩, _, _⟩ := (HV.out.am (X := Y) (cs := [.int .i64 b.fi, .int .i64 b.fl, .int .i64 b.f, .int .i64 b.cu, .int .i64 b.rf]) (by simp)).five; obtain ⟨⟨Z0, Z1, Z2, Z3, Z4⟩, _, _⟩ := (HV.out.am (X := Z) (cs := [.int .i64 b.fi, .int .i64 b.fl, .int .i64 b.f, .int .i64 b.cu, .int .i64 b.rf]) (by simp)).five) | (go_at_call 23; refine ((check_c x ck _ (HV.out.dn (D := D) (by simp)) HS.out HCK.out).1).mono ?_; rintro e wa2 ⟨rfl, hb⟩; replace HV := Lib.hid (HV.out.below hb); clear hb; clear A0 A1 A2 A3 A4 B0 B1 B2 B3 B4 D0 D1 D2 D3 D4 Y0 Y1 Y2 Y3 Y4 Z0 Z1 Z2 Z3 Z4; obtain ⟨A0, A1, A2, A3, A4⟩ := HV.out.cc (D := A) (x := y9) (by simp); obtain ⟨B0, B1, B2, B3, B4⟩ := HV.out.cc (D := B) (x := z1) (by simp); obtain ⟨D0, D1, D2, D3, D4⟩ := HV.out.cc (D := D) (x := x) (by simp); obtain ⟨⟨Y0, Y1, Y2, Y3, Y4⟩, _, _⟩ := (HV.out.am (X := Y) (cs := [.int .i64 b.fi, .int .i64 b.fl, .int .i64 b.f, .int .i64 b.cu, .int .i64 b.rf]) (by simp)).five; obtain ⟨⟨Z0, Z1, Z2, Z3, Z4⟩, _, _⟩ := (HV.out.am (X := Z) (cs := [.int .i64 b.fi, .int .i64 b.fl, .int .i64 b.f, .int .i64 b.cu, .int .i64 b.rf]) (by simp)).five) | (go_at_call 24; refine ((check_c x ck _ (HV.out.dn (D := D) (by simp)) HS.out HCK.out).2).mono ?_; rintro e wa3 ⟨rfl, hb⟩; replace HV := Lib.hid (HV.out.below hb); clear hb; clear A0 A1 A2 A3 A4 B0 B1 B2 B3 B4 D0 D1 D2 D3 D4 Y0 Y1 Y2 Y3 Y4 Z0 Z1 Z2 Z3 Z4; obtain ⟨A0, A1, A2, A3, A4⟩ := HV.out.cc (D := A) (x := y9) (by simp); obtain ⟨B0, B1, B2, B3, B4⟩ := HV.out.cc (D := B) (x := z1) (by simp); obtain ⟨D0, D1, D2, D3, D4⟩ := HV.out.cc (D := D) (x := x) (by simp); obtain ⟨⟨Y0, Y1, Y2, Y3, Y4⟩, _, _⟩ := (HV.out.am (X := Y) (cs := [.int .i64 b.fi, .int .i64 b.fl, .int .i64 b.f, .int .i64 b.cu, .int .i64 b.rf]) (by simp)).five; obtain ⟨⟨Z0, Z1, Z2, Z3, Z4⟩, _, _⟩ := (HV.out.am (X := Z) (cs := [.int .i64 b.fi, .int .i64 b.fl, .int .i64 b.f, .int .i64 b.cu, .int .i64 b.rf]) (by simp)).five)) | fail)
    all_goals
      clear A0 A1 A2 A3 A4 B0 B1 B2 B3 B4 D0 D1 D2 D3 D4 Y0 Y1 Y2 Y3 Y4 Z0 Z1 Z2 Z3 Z4
      clear HE1 HS1 HCK
      skip
      go_wp2_with fail
      refine (new25_v _ _).mono ?_
      rintro e v29 ⟨z2, rfl, hpl, ha, hb⟩
      have HV2 : Hid (Vr w _ [(U, y8), (C, y7), (B, z1), (A, z2), (D, x)] [(Z, [.int .i64 b.fi, .int .i64 b.fl, .int .i64 b.f, .int .i64 b.cu, .int .i64 b.rf]), (Y, [.int .i64 b.fi, .int .i64 b.fl, .int .i64 b.f, .int .i64 b.cu, .int .i64 b.rf]), (X, [.int .i64 1, .int .i64 0, .int .i64 xo, .int .i64 xc, .int .i64 5])]) := HV.out.put (L1 := [(U, y8), (C, y7), (B, z1)]) (L2 := [(D, x)]) (Or.inr rfl) hb ha
      replace HV := Lib.hid (HV.out.below hb)
      obtain ⟨A0, A1, A2, A3, A4⟩ := HV.out.cc (D := A) (x := y9) (by simp)
      go_upto_region 30 with (fail)
      replace HV := HV2
      clear HV2 ha hb A0 A1 A2 A3 A4
      generalize ((v29.setCell ⟨A, 0, none⟩ (.slice z2.oa z2.o.length z2.oc)).setCell ⟨A, 1, none⟩ (.slice z2.ta z2.t.length z2.tc)) = u30 at *
      as_aux_lemma =>
      have HP1 := Lib.hid hpl
      clear hpl
      go_wp2_with fail
      refine (new26_v _ _).mono ?_
      rintro e v31 ⟨z3, rfl, hpl, ha, hb⟩
      have HV2 : Hid (Vr w _ [(U, y8), (C, y7), (B, z3), (A, z2), (D, x)] [(Z, [.int .i64 b.fi, .int .i64 b.fl, .int .i64 b.f, .int .i64 b.cu, .int .i64 b.rf]), (Y, [.int .i64 b.fi, .int .i64 b.fl, .int .i64 b.f, .int .i64 b.cu, .int .i64 b.rf]), (X, [.int .i64 1, .int .i64 0, .int .i64 xo, .int .i64 xc, .int .i64 5])]) := HV.out.put (L1 := [(U, y8), (C, y7)]) (L2 := [(A, z2), (D, x)]) (Or.inr rfl) hb ha
      replace HV := Lib.hid (HV.out.below hb)
      obtain ⟨B0, B1, B2, B3, B4⟩ := HV.out.cc (D := B) (x := z1) (by simp)
      go_upto_region 31 with (fail)
      replace HV := HV2
      clear HV2 ha hb B0 B1 B2 B3 B4
      generalize ((v31.setCell ⟨B, 0, none⟩ (.slice z3.oa z3.o.length z3.oc)).setCell ⟨B, 1, none⟩ (.slice z3.ta z3.t.length z3.tc)) = u32 at *
      as_aux_lemma =>
      have HE1 : Hid (z3.pl = z2.pl) := hpl.trans HP1.out.symm
      have HS1 : Hid (DSz z2) := new_sz HP1.out
      clear hpl HP1
      generalize newE _ = nE at *
      obtain ⟨A0, A1, A2, A3, A4⟩ := HV.out.cc (D := A) (x := z2) (by simp)
      obtain ⟨B0, B1, B2, B3, B4⟩ := HV.out.cc (D := B) (x := z3) (by simp)
      go_wp2_with fail
      refine (same_c z2 z3 _ (HV.out.dn (D := A) (by simp)) (HV.out.dn (D := B) (by simp)) HE1.out HS1.out).mono ?_
      rintro e v33 ⟨rfl, hb⟩
      clear A0 A1 A2 A3 A4 B0 B1 B2 B3 B4
      replace HV := Lib.hid (HV.out.below hb)
      clear hb
      go_wp2_with fail
      refine (awake_any _).mono ?_
      rintro e wl ⟨rfl, hb⟩
      go_wp2_with fail
      go_ret
      exact RetW.mk rfl (HV.out.bel.trans (hb.mono HV.out.bel.size))
end Go.Proofs.Ytflcbefomjlgmaa
