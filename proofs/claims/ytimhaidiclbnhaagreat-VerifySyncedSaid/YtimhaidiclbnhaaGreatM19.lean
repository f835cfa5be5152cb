/- Layer 46, shared texts of this seat, part 19. -/
import Derived.Laws.EntriesVeiled
import Derived.Test.YtimhaidiclbnhaaGreatM11
import Derived.Test.YtimhaidiclbnhaaGreatM17
import Derived.Test.YtimhaidiclbnhaaGreatM18
/- Layer 46: the program's model in memory, and what a store leaves of it. -/
set_option linter.unusedSimpArgs false
set_option linter.unusedVariables false
set_option maxRecDepth 100000
namespace Go.Proofs.YtimhaidiclbnhaaGreat.Ver
open Go.ChangeShapes Go.WideShapes Go.ChangeAt Go.RowKit
open Des (Dv De Dn DIn DBlk DAns Vi At RowOf ints)
open Ara (Ar ARow Cel)
open Con (StrRow)

/-- an operation -/
structure Opr where
  kd : Int
  fd : Int
  fi : Int
  fl : Int
  off : Int
  len : Int
  pg : Int
  dat : ByteArray
  wr : Bool
def Opr.zero : Opr := ⟨0, 0, 0, 0, 0, 0, 0, ⟨#[]⟩, false⟩
def Opr.cells (o : Opr) : List Value := [.int .i64 o.kd, .int .i64 o.fd, .int .i64 o.fi, .int .i64 o.fl, .int .i64 o.off, .int .i64 o.len, .int .i64 o.pg, .string o.dat, .bool o.wr]
def opVal (o : Opr) : Value := .agg #[.int .i64 o.kd, .int .i64 o.fd, .int .i64 o.fi, .int .i64 o.fl, .int .i64 o.off, .int .i64 o.len, .int .i64 o.pg, .string o.dat, .bool o.wr]
/-- an event -/
structure Ev where
  tm : Int
  pr : Int
  ix : Int
  fi : Int
  at' : Int
  bg : Int
  er : Int
  n : Int
  dat : ByteArray
def Ev.cells (x : Ev) : List Value := [.int .i64 x.tm, .int .i64 x.pr, .int .i64 x.ix, .int .i64 x.fi, .int .i64 x.at', .int .i64 x.bg, .int .i64 x.er, .int .i64 x.n, .string x.dat]
def evVal (x : Ev) : Value := .agg #[.int .i64 x.tm, .int .i64 x.pr, .int .i64 x.ix, .int .i64 x.fi, .int .i64 x.at', .int .i64 x.bg, .int .i64 x.er, .int .i64 x.n, .string x.dat]
/-- the model as plain data -/
structure St where
  scr : List (List Opr)
  fs : List ByteArray
  fa : List Int
  la : List Int
  d : De
  ar : List (List Ar)
  h : List (List ByteArray × Int)
  st : List (List Int)
  fin : List Int
  bg : List Int
  tm : Int
/-- where a slice lies -/
structure Sl where
  a : Option Addr
  c : Nat
def Sl.nil : Sl := ⟨none, 0⟩
/-- where the model lies -/
structure Ly where
  M : Nat
  F : Nat
  A : Nat
  L : Nat
  R : Nat
  H : Nat
  S : Nat
  N : Nat
  B : Nat
  pl : Value
  sc : Value
  x : Dv
  ar : List Sl
  hs : List Sl
  st : List Sl
  ex : List Nat := []
def fx (b n : Nat) : Value := .slice (some ⟨b, 0, none⟩) n n
def mC (l : Ly) (s : St) : List Value :=
  [.slice none 0 0, .slice none 0 0, .int .i64 0, .int .i64 0, .int .i64 0, .int .i64 0, .int .i64 0, .int .i64 0, .int .i64 0, .int .i64 0, .slice none 0 0, .slice none 0 0, .int .i64 0, .int .i64 0, l.pl, .slice none 0 0, .slice none 0 0, .int .i64 0, .int .i64 0, l.sc, .slice none 0 0,
   fx l.F s.fs.length, fx l.A s.fs.length, fx l.L s.fs.length, .slice l.x.oa l.x.o.length l.x.oc, .slice l.x.ta l.x.t.length l.x.tc, fx l.R s.scr.length, fx l.H s.fs.length, fx l.S s.fs.length, fx l.N s.scr.length, fx l.B s.scr.length, .int .i64 s.tm]
/-- a slice of something of each length -/
def slC {α : Type} (a : List Sl) (l : List (List α)) : List Value := (List.range l.length).map fun i => .slice (a.getD i Sl.nil).a (l.getD i []).length (a.getD i Sl.nil).c
def hC (a : List Sl) (l : List (List ByteArray × Int)) : List Value := (List.range l.length).flatMap fun i => [.slice (a.getD i Sl.nil).a (l.getD i ([], 0)).1.length (a.getD i Sl.nil).c, .int .i64 (l.getD i ([], 0)).2]
def stB (l : List Sl) : List Nat := l.filterMap fun s => s.a.map Addr.block
/-- the blocks that the model writes -/
def vs (l : Ly) : List Nat := [l.M, l.F, l.A, l.L, l.R, l.H, l.S, l.N, l.B] ++ stB l.st
/-- and those in which nothing of the model lies -/
def vx (l : Ly) : List Nat := vs l ++ l.ex
theorem vs_vx {l : Ly} {b : Nat} (h : b ∈ vs l) : b ∈ vx l := List.mem_append.2 (Or.inl h)
structure OpAt (W : World) (g o : Nat) (x : Opr) : Prop where
  c : ∀ j v, x.cells[j]? = some v → W.cell? ⟨g, o + j, none⟩ = some v
def ORow (B : Nat) (W : World) (v : Value) (l : List Opr) : Prop := ∃ g o c, v = .slice (some ⟨g, o, none⟩) l.length c ∧ g < B ∧ l.length ≤ c ∧ c ≤ maxLen ∧ ∀ i, i < l.length → OpAt W g (o + i * 9) (l.getD i Opr.zero)
/-- the scripts may be read, ahead of block B -/
def ScIn (B : Nat) (W : World) (v : Value) (l : List (List Opr)) : Prop := ∃ g o c, v = .slice (some ⟨g, o, none⟩) l.length c ∧ g < B ∧ l.length ≤ c ∧ c ≤ maxLen ∧ ∀ i, i < l.length → ∃ u, W.cell? ⟨g, o + i, none⟩ = some u ∧ ORow B W u (l.getD i [])
/-- only blocks of V have changed -/
structure Vk (V : List Nat) (w w' : World) : Prop where
  os : w'.os = w.os
  tape : w'.tape = w.tape
  output : w'.output = w.output
  size : w.heap.size ≤ w'.heap.size
  block : ∀ k, k ∉ V → k < w.heap.size → w'.heap[k]? = w.heap[k]?
theorem Vk.refl (V : List Nat) (w : World) : Vk V w w := ⟨rfl, rfl, rfl, Nat.le_refl _, fun _ _ _ => rfl⟩
theorem Vk.ofBelow {V : List Nat} {w w' : World} (h : Below w.heap.size w w') : Vk V w w' := ⟨h.os, h.tape, h.output, h.size, fun k _ hk => h.block k hk⟩
theorem Vk.trans {V : List Nat} {w w1 w2 : World} (h1 : Vk V w w1) (h2 : Vk V w1 w2) : Vk V w w2 :=
  ⟨h2.os.trans h1.os, h2.tape.trans h1.tape, h2.output.trans h1.output, Nat.le_trans h1.size h2.size, fun k hk hl => (h2.block k hk (Nat.lt_of_lt_of_le hl h1.size)).trans (h1.block k hk hl)⟩
theorem Vk.below {V : List Nat} {w w' : World} {B : Nat} (h : Vk V w w') (hB : B ≤ w.heap.size) (hV : ∀ b, b ∈ V → B ≤ b) : Below B w w' :=
  ⟨h.os, h.tape, h.output, h.size, fun k hk => h.block k (fun hm => by have := hV k hm; omega) (by omega)⟩
theorem Vk.set {V : List Nat} (w : World) (b o : Nat) (v : Value) (hb : b ∈ V) : Vk V w (w.setCell ⟨b, o, none⟩ v) :=
  ⟨rfl, rfl, rfl, by simp [World.setCell], fun k hk _ => Below.heap_setCell w ⟨b, o, none⟩ v k (fun e => hk (by rw [e]; exact hb))⟩
theorem Vk.more {V V' : List Nat} {w w' : World} (h : Vk V w w') (hv : ∀ b, b ∈ V → b ∈ V' ∨ w.heap.size ≤ b) : Vk V' w w' :=
  ⟨h.os, h.tape, h.output, h.size, fun k hk hl => h.block k (fun hm => by rcases hv k hm with h1 | h1 <;> first | exact hk h1 | omega) hl⟩
theorem At.keepB {W W' : World} {b : Nat} {cs : List Value} (h : At W b cs) (hs : W.heap.size ≤ W'.heap.size) (hk : W'.heap[b]? = W.heap[b]?) : At W' b cs :=
  ⟨fun j v hv => (World.cell?_of_block (w := W) (a := ⟨b, 0 + j, none⟩) hk).trans (h.r j v hv),
   fun j hj => ⟨by rw [World.cell?_of_block (w := W) (a := ⟨b, 0 + j, none⟩) hk]; exact (h.t j hj).1, by rw [World.frozen?_of_block (w := W) (a := ⟨b, 0 + j, none⟩) hk]; exact (h.t j hj).2⟩, Nat.lt_of_lt_of_le h.hi hs⟩
theorem arow_keep {W W' : World} {B cap : Nat} {a : Option Addr} {l : List Ar} (h : ARow B a cap l W) (hs : W.heap.size ≤ W'.heap.size) (hk : ∀ q, a = some q → W'.heap[q.block]? = W.heap[q.block]?) : ARow B a cap l W' := by
  rcases h with h | ⟨g, h1, h2, h3, h4, h5, h6⟩
  · exact Or.inl h
  · have hkg : W'.heap[g]? = W.heap[g]? := hk _ h1
    exact Or.inr ⟨g, h1, h2, Nat.lt_of_lt_of_le h3 hs, h4, h5, fun j hj => (h6 j hj).eq (fun i => World.cell?_of_block (w := W) (a := ⟨g, i, none⟩) hkg)⟩
theorem str_keep {W W' : World} {B cap : Nat} {a : Option Addr} {l : List ByteArray} (h : StrRow B a cap l W) (hs : W.heap.size ≤ W'.heap.size) (hk : ∀ q, a = some q → W'.heap[q.block]? = W.heap[q.block]?) : StrRow B a cap l W' := by
  rcases h with h | ⟨g, h1, h2, h3, h4, h5, h6⟩
  · exact Or.inl h
  · have hkg : W'.heap[g]? = W.heap[g]? := hk _ h1
    exact Or.inr ⟨g, h1, h2, Nat.lt_of_lt_of_le h3 hs, h4, h5, fun j hj => (World.cell?_of_block (w := W) (a := ⟨g, j, none⟩) hkg).trans (h6 j hj)⟩
theorem own_keepB {W W' : World} {B n size : Nat} {e : TypeId} {v : Value} {xs : List Value} (h : W.ownsRow B e size v n xs) (hk : ∀ q, v.ownBlock = some q → W'.heap[q]? = W.heap[q]?) : W'.ownsRow B e size v n xs := by
  refine ⟨h.1, ?_⟩
  rcases h.2 with hn | ⟨g, cap, cur, rfl, hg, hgg, rest⟩
  · exact Or.inl hn
  · exact Or.inr ⟨g, cap, cur, rfl, hg, by rw [hk g rfl]; exact hgg, rest⟩
theorem ORow.below {B : Nat} {W W' : World} {v : Value} {l : List Opr} (h : ORow B W v l) (hb : Below B W W') : ORow B W' v l := by
  obtain ⟨g, o, c, h1, h2, h3, h4, h5⟩ := h
  exact ⟨g, o, c, h1, h2, h3, h4, fun i hi => ⟨fun j u hu => (hb.cell (p := ⟨g, o + i * 9 + j, none⟩) h2).trans ((h5 i hi).c j u hu)⟩⟩
theorem ScIn.below {B : Nat} {W W' : World} {v : Value} {l : List (List Opr)} (h : ScIn B W v l) (hb : Below B W W') : ScIn B W' v l := by
  obtain ⟨g, o, c, h1, h2, h3, h4, h5⟩ := h
  refine ⟨g, o, c, h1, h2, h3, h4, fun i hi => ?_⟩
  obtain ⟨u, h6, h7⟩ := h5 i hi
  exact ⟨u, (hb.cell (p := ⟨g, o + i, none⟩) h2).trans h6, h7.below hb⟩
/-- what the model reads and does not write -/
structure Im (B : Nat) (W : World) (l : Ly) (s : St) (V : List Nat) : Prop where
  di : Vi W V l.x
  dp : l.x.pl = s.d
  ra : ∀ i, i < s.ar.length → ARow 0 (l.ar.getD i Sl.nil).a (l.ar.getD i Sl.nil).c (s.ar.getD i []) W ∧ ∀ q, (l.ar.getD i Sl.nil).a = some q → q.block ∉ V
  rh : ∀ i, i < s.h.length → StrRow 0 (l.hs.getD i Sl.nil).a (l.hs.getD i Sl.nil).c (s.h.getD i ([], 0)).1 W ∧ ∀ q, (l.hs.getD i Sl.nil).a = some q → q.block ∉ V
  sc : ScIn B W l.sc s.scr
structure Mm (B : Nat) (W : World) (l : Ly) (s : St) : Prop where
  im : Im B W l s (vx l)
  m : At W l.M (mC l s)
  f : At W l.F (s.fs.map Value.string)
  a : At W l.A (ints s.fa)
  la : At W l.L (ints s.la)
  r : At W l.R (slC l.ar s.ar)
  h : At W l.H (hC l.hs s.h)
  S : At W l.S (slC l.st s.st)
  n : At W l.N (ints s.fin)
  b : At W l.B (ints s.bg)
  rs : ∀ i, i < s.st.length → W.ownsRow B 3 1 (.slice (l.st.getD i Sl.nil).a (s.st.getD i []).length (l.st.getD i Sl.nil).c) (s.st.getD i []).length (ints (s.st.getD i []))
  nd : (vs l).Nodup
  lo : ∀ b, b ∈ vs l → B ≤ b
  hB : B ≤ W.heap.size
  la' : l.st.length = s.st.length
  lh' : l.hs.length = s.h.length
  lr' : l.ar.length = s.ar.length
  hx : ∀ b, b ∈ l.ex → b < W.heap.size ∧ B ≤ b
theorem Im.keep {B : Nat} {W W' : World} {l : Ly} {s : St} {V : List Nat} (h : Im B W l s V) (hk : Vk V W W') (hl : ∀ b, b ∈ V → B ≤ b) (hB : B ≤ W.heap.size) : Im B W' l s V :=
  ⟨⟨h.di.di.keepB hk.size fun b hb => hk.block b (h.di.out b hb) (h.di.di.blk hb), h.di.out⟩, h.dp,
   fun i hi => ⟨arow_keep (h.ra i hi).1 hk.size fun q hq => hk.block _ ((h.ra i hi).2 q hq) (by
      rcases (h.ra i hi).1 with ⟨h1, _⟩ | ⟨g, h1, _, h3, _⟩
      · rw [h1] at hq; cases hq
      · rw [h1] at hq; cases hq; exact h3), (h.ra i hi).2⟩,
   fun i hi => ⟨str_keep (h.rh i hi).1 hk.size fun q hq => hk.block _ ((h.rh i hi).2 q hq) (by
      rcases (h.rh i hi).1 with ⟨h1, _⟩ | ⟨g, h1, _, h3, _⟩
      · rw [h1] at hq; cases hq
      · rw [h1] at hq; cases hq; exact h3), (h.rh i hi).2⟩,
   h.sc.below (hk.below hB hl)⟩
theorem Mm.lox {B : Nat} {W : World} {l : Ly} {s : St} (h : Mm B W l s) : ∀ b, b ∈ vx l → B ≤ b := fun b hb => by
  rcases List.mem_append.1 hb with h1 | h1
  · exact h.lo b h1
  · exact (h.hx b h1).2
theorem Mm.below {B : Nat} {W W' : World} {l : Ly} {s : St} (h : Mm B W l s) (hb : Below W.heap.size W W') : Mm B W' l s :=
  ⟨h.im.keep (Vk.ofBelow hb) h.lox h.hB, h.m.below hb h.m.hi, h.f.below hb h.f.hi, h.a.below hb h.a.hi, h.la.below hb h.la.hi, h.r.below hb h.r.hi, h.h.below hb h.h.hi, h.S.below hb h.S.hi, h.n.below hb h.n.hi, h.b.below hb h.b.hi,
   fun i hi => Des.ownsRow_below (h.rs i hi) hb, h.nd, h.lo, Nat.le_trans h.hB hb.size, h.la', h.lh', h.lr', fun b hb2 => ⟨Nat.lt_of_lt_of_le (h.hx b hb2).1 hb.size, (h.hx b hb2).2⟩⟩
end Go.Proofs.YtimhaidiclbnhaaGreat.Ver
/- Layer 46: bad, outer, optional, judge. -/
set_option linter.unusedSimpArgs false
set_option linter.unusedVariables false
set_option maxRecDepth 100000
namespace Go.Proofs.YtimhaidiclbnhaaGreat.Ver
open Go.ChangeShapes Go.WideShapes Go.ChangeAt Go.RowKit
open Des (At)

structure Res where
  er : Int
  n : Int
  dat : ByteArray
def resC (r : Res) : List Value := [.int .i64 r.er, .int .i64 r.n, .string r.dat]
def outerB (e : Int) : Bool := decide (e = 10 ∨ e = 11 ∨ 50 ≤ e)
theorem outer_any (e : Int) (W : World) : Calls Tryz.prog 80 #[.int .i64 e] W (RetW (.bool (outerB e)) W) := by
  have HR : Hid (outerB e = decide (e = 10 ∨ e = 11 ∨ 50 ≤ e)) := Lib.hid rfl
  generalize outerB e = r at *
  by_cases h1 : e = 10
  · subst h1
    go_enter Tryz.func80, Tryz.ntmps80
    go_wp2_with fail
    go_ret
    exact RetW.mk (by rw [HR.out]; simp) (Below.refl _ _)
  by_cases h2 : e = 11
  · subst h2
    go_enter Tryz.func80, Tryz.ntmps80
    go_wp2_with fail
    go_ret
    exact RetW.mk (by rw [HR.out]; simp) (Below.refl _ _)
  have e1 : (e == 10) = false := by simpa using h1
  have e2 : (e == 11) = false := by simpa using h2
  go_enter Tryz.func80, Tryz.ntmps80
  go_wp2_with fail
  go_ret
  exact RetW.mk (by rw [HR.out]; simp [h1, h2]) (Below.refl _ _)
def optB (k : Int) : Bool := [3, 11, 4, 12, 6, 7].contains k
theorem opt_any (k : Int) (W : World) : Calls Tryz.prog 79 #[.int .i64 k] W (RetW (.bool (optB k)) W) := by
  have HC : ∀ W' : World, (∀ j, j < 6 → W'.cell? ⟨W.heap.size, 0 + j, none⟩ = some (.int .i64 (([3, 11, 4, 12, 6, 7] : List Int).getD j 0))) → Calls Tryz.prog 115 #[.slice (some ⟨W.heap.size, 0, none⟩) 6 6, .int .i64 k] W' fun e w' => e = .returned (.bool (optB k)) ∧ w' = W' := fun W' hc =>
    Tryz.slices_Contains_int W.heap.size 0 6 6 [3, 11, 4, 12, 6, 7] k W' (by decide) (by decide) hc
  have HCC := Lib.hid HC
  clear HC
  generalize optB k = r at *
  go_enter Tryz.func79, Tryz.ntmps79
  go_wp2_with fail
  refine (HCC.out _ ?_).mono ?_
  · intro j hj
    rcases j with _ | _ | _ | _ | _ | _ | j
    · simp
    · simp
    · simp
    · simp
    · simp
    · simp
    · omega
  rintro e w' ⟨rfl, rfl⟩
  go_wp2_with fail
  go_ret
  exact RetW.mk rfl ((Below.refl _ _).alloc (Nat.le_refl _) _)
theorem bad_any (e : Int) (W : World) : Calls Tryz.prog 86 #[.int .i64 e] W (RetW (.agg #[.int .i64 e, .int .i64 0, .string ⟨#[]⟩, .nilFunc]) W) := by
  go_enter Tryz.func86, Tryz.ntmps86
  go_wp2_with fail
  refine bodyPost_ret (v := .agg #[.int .i64 e, .int .i64 0, .string ⟨#[]⟩, .nilFunc]) (by simp [results, Tryz.results86, go_sem]) rfl ?_
  exact RetW.mk rfl ((Below.refl _ _).alloc (Nat.le_refl _) _)
def resVal (r : Res) : Value := .agg #[.int .i64 r.er, .int .i64 r.n, .string r.dat]
def mk1 (k : Int) (w g : Res) : Res := if (optB k && decide (w.er = 0) && outerB g.er) = true then ⟨g.er, 0, ⟨#[]⟩⟩ else w
def mk2 (k : Int) (w g : Res) : Res := if k = 8 ∧ w.er = 0 ∧ g.er = 10 then ⟨10, w.n, w.dat⟩ else w
def cmpV (k : Int) (w g : Res) : Int := if g.er = w.er ∧ g.n = w.n ∧ g.dat = w.dat then 0 else if k = 8 ∧ g.er ≠ w.er then 3 else if g.er = w.er ∧ g.n = w.n then 1 else 2
def judgeV (k : Int) (w g : Res) : Int := cmpV k (mk2 k (mk1 k w g) g) g
/-- the three variables of judge -/
structure Jd (W0 W : World) (K X Y : Nat) (k : Int) (w g : Res) : Prop where
  bel : Below W0.heap.size W0 W
  k : W.cell? ⟨K, 0, none⟩ = some (.int .i64 k)
  kh : K < W.heap.size
  w : At W X (resC w)
  g : At W Y (resC g)
  x0 : W0.heap.size ≤ X
  xy : Y ≠ X
  kx : K ≠ X
theorem Jd.below {W0 W W' : World} {K X Y : Nat} {k : Int} {w g : Res} (h : Jd W0 W K X Y k w g) (hb : Below W.heap.size W W') : Jd W0 W' K X Y k w g :=
  ⟨h.bel.trans (hb.mono h.bel.size), (hb.cell (p := ⟨K, 0, none⟩) h.kh).trans h.k, Nat.lt_of_lt_of_le h.kh hb.size, h.w.below hb h.w.hi, h.g.below hb h.g.hi, h.x0, h.xy, h.kx⟩
theorem Jd.put {W0 W : World} {K X Y : Nat} {k : Int} {w g : Res} (h : Jd W0 W K X Y k w g) (e n : Int) (d : ByteArray) : Jd W0 (((W.setCell ⟨X, 0, none⟩ (.int .i64 e)).setCell ⟨X, 1, none⟩ (.int .i64 n)).setCell ⟨X, 2, none⟩ (.string d)) K X Y k ⟨e, n, d⟩ g :=
  ⟨((h.bel.setCell (p := ⟨X, 0, none⟩) h.x0 _).setCell (p := ⟨X, 1, none⟩) h.x0 _).setCell (p := ⟨X, 2, none⟩) h.x0 _, by
    rw [World.cell?_setCell_other, World.cell?_setCell_other, World.cell?_setCell_other]
    · exact h.k
    · intro e; exact h.kx (congrArg Addr.block e).symm
    · intro e; exact h.kx (congrArg Addr.block e).symm
    · intro e; exact h.kx (congrArg Addr.block e).symm, by simpa [World.setCell] using h.kh, ((h.w.set 0 _).set 1 _).set 2 _, ((h.g.setOther (x := ⟨X, 0, none⟩) h.xy _).setOther (x := ⟨X, 1, none⟩) h.xy _).setOther (x := ⟨X, 2, none⟩) h.xy _, h.x0, h.xy, h.kx⟩
theorem Jd.put0 {W0 W : World} {K X Y : Nat} {k : Int} {w g : Res} (h : Jd W0 W K X Y k w g) (e : Int) : Jd W0 (W.setCell ⟨X, 0, none⟩ (.int .i64 e)) K X Y k ⟨e, w.n, w.dat⟩ g :=
  ⟨h.bel.setCell (p := ⟨X, 0, none⟩) h.x0 _, by
    rw [World.cell?_setCell_other]
    · exact h.k
    · intro e; exact h.kx (congrArg Addr.block e).symm, by simpa [World.setCell] using h.kh, h.w.set 0 _, h.g.setOther (x := ⟨X, 0, none⟩) h.xy _, h.x0, h.xy, h.kx⟩
theorem Jd.c {W0 W : World} {K X Y : Nat} {k : Int} {w g : Res} (h : Jd W0 W K X Y k w g) : W.cell? ⟨K, 0, none⟩ = some (.int .i64 k) ∧ W.cell? ⟨X, 0, none⟩ = some (.int .i64 w.er) ∧ W.cell? ⟨X, 1, none⟩ = some (.int .i64 w.n) ∧ W.cell? ⟨X, 2, none⟩ = some (.string w.dat) ∧ W.cell? ⟨Y, 0, none⟩ = some (.int .i64 g.er) ∧ W.cell? ⟨Y, 1, none⟩ = some (.int .i64 g.n) ∧ W.cell? ⟨Y, 2, none⟩ = some (.string g.dat) ∧ W.frozen? ⟨X, 0, none⟩ = false ∧ W.frozen? ⟨X, 1, none⟩ = false ∧ W.frozen? ⟨X, 2, none⟩ = false :=
  ⟨h.k, h.w.cell 0 _ rfl, h.w.cell 1 _ rfl, h.w.cell 2 _ rfl, h.g.cell 0 _ rfl, h.g.cell 1 _ rfl, h.g.cell 2 _ rfl, h.w.free 0 (by simp [resC]), h.w.free 1 (by simp [resC]), h.w.free 2 (by simp [resC])⟩
set_option maxHeartbeats 8000000 in
theorem judge_any (o : Opr) (w g : Res) (W : World) :
    Calls Tryz.prog 40 #[opVal o, resVal w, resVal g] W (RetW (.int .i64 (judgeV o.kd w g)) W) := by
  obtain ⟨k, o1, o2, o3, o4, o5, o6, o7, o8⟩ := o
  obtain ⟨we, wn, wd⟩ := w
  obtain ⟨ge, gn, gd⟩ := g
  have HO : Hid (∀ W', Calls Tryz.prog 79 #[.int .i64 k] W' (RetW (.bool (optB k)) W')) := Lib.hid (opt_any k)
  have HU : Hid (∀ W', Calls Tryz.prog 80 #[.int .i64 ge] W' (RetW (.bool (outerB ge)) W')) := Lib.hid (outer_any ge)
  have HJ : Hid (judgeV k ⟨we, wn, wd⟩ ⟨ge, gn, gd⟩ = cmpV k (mk2 k (if (optB k && decide (we = 0) && outerB ge) = true then ⟨ge, 0, ⟨#[]⟩⟩ else ⟨we, wn, wd⟩) ⟨ge, gn, gd⟩) ⟨ge, gn, gd⟩) := Lib.hid rfl
  show Calls Tryz.prog 40 #[.agg #[.int .i64 k, .int .i64 o1, .int .i64 o2, .int .i64 o3, .int .i64 o4, .int .i64 o5, .int .i64 o6, .string o7, .bool o8], .agg #[.int .i64 we, .int .i64 wn, .string wd], .agg #[.int .i64 ge, .int .i64 gn, .string gd]] W (RetW (.int .i64 (judgeV k ⟨we, wn, wd⟩ ⟨ge, gn, gd⟩)) W)
  generalize judgeV k ⟨we, wn, wd⟩ ⟨ge, gn, gd⟩ = r at *
  generalize optB k = ob at *
  generalize outerB ge = ub at *
  go_enter Tryz.func40, Tryz.ntmps40
  go_upto_region 1 with (fail)
  generalize hW1 : (((W.alloc (Obj.cells #[.int .i64 k, .int .i64 o1, .int .i64 o2, .int .i64 o3, .int .i64 o4, .int .i64 o5, .int .i64 o6, .string o7, .bool o8] 66)).alloc (Obj.cells #[.int .i64 we, .int .i64 wn, .string wd] 62)).alloc (Obj.cells #[.int .i64 ge, .int .i64 gn, .string gd] 62)) = W1 at *
  have HD : Hid (Jd W W1 W.heap.size (W.heap.size + 1) (W.heap.size + 1 + 1) k ⟨we, wn, wd⟩ ⟨ge, gn, gd⟩) := by
    rw [← hW1]
    refine ⟨(((Below.refl _ _).alloc (Nat.le_refl _) _).alloc (by simp) _).alloc (by simp; omega) _, by rw [World.cell?_alloc_lt _ _ _ (by rw [Des.alloc_size, Des.alloc_size]; show W.heap.size < _; omega), World.cell?_alloc_lt _ _ _ (by rw [Des.alloc_size]; show W.heap.size < _; omega)]; simp, by rw [Des.alloc_size, Des.alloc_size, Des.alloc_size]; omega, ?_, ?_, by omega, by omega, by omega⟩
    · refine At.alloc ?_ _
      exact (At.new (W.alloc (Obj.cells #[.int .i64 k, .int .i64 o1, .int .i64 o2, .int .i64 o3, .int .i64 o4, .int .i64 o5, .int .i64 o6, .string o7, .bool o8] 66)) [.int .i64 we, .int .i64 wn, .string wd] 62).cast (by simp)
    · exact (At.new ((W.alloc (Obj.cells #[.int .i64 k, .int .i64 o1, .int .i64 o2, .int .i64 o3, .int .i64 o4, .int .i64 o5, .int .i64 o6, .string o7, .bool o8] 66)).alloc (Obj.cells #[.int .i64 we, .int .i64 wn, .string wd] 62)) [.int .i64 ge, .int .i64 gn, .string gd] 62).cast (by simp)
  clear hW1
  generalize W.heap.size + 1 + 1 = Y at *
  generalize W.heap.size + 1 = X at *
  go_cut [19] (fun v wx => v = .bool (ob && decide (we = 0) && ub) ∧ Hid (Jd W wx W.heap.size X Y k ⟨we, wn, wd⟩ ⟨ge, gn, gd⟩))
  case first =>
    obtain ⟨c0, c1, c2, c3, c4, c5, c6, c7, c8, c9⟩ := HD.out.c
    go_wp2_with fail
    refine (HO.out _).mono ?_
    rintro e w1 ⟨rfl, hb⟩
    replace HD := Lib.hid (HD.out.below hb)
    clear hb c0 c1 c2 c3 c4 c5 c6 c7 c8 c9
    obtain ⟨c0, c1, c2, c3, c4, c5, c6, c7, c8, c9⟩ := HD.out.c
    cases ob with
    | false =>
      go_wp2_with fail
      go_meet
      exact ⟨rfl, HD⟩
    | true =>
      by_cases hw : we = 0
      · subst hw
        go_wp2_with fail
        refine (HU.out _).mono ?_
        rintro e w2 ⟨rfl, hb⟩
        replace HD := Lib.hid (HD.out.below hb)
        clear hb c0 c1 c2 c3 c4 c5 c6 c7 c8 c9
        go_wp2_with fail
        go_meet
        exact ⟨by simp, HD⟩
      · have hz : (we == 0) = false := by simpa using hw
        go_wp2_with fail
        go_meet
        exact ⟨by simp [hw], HD⟩
  case rest =>
  clear HD
  obtain ⟨rfl, HD⟩ := hcut
  generalize hcc : (ob && decide (we = 0) && ub) = cc at *
  clear hcc
  go_upto_if 19 with (fail)
  go_cut [6] (fun v wx => v = .int .i64 0 ∧ ∃ v1 : Res, v1 = (if cc = true then ⟨ge, 0, ⟨#[]⟩⟩ else ⟨we, wn, wd⟩) ∧ Hid (Jd W wx W.heap.size X Y k v1 ⟨ge, gn, gd⟩))
  case first =>
    obtain ⟨c0, c1, c2, c3, c4, c5, c6, c7, c8, c9⟩ := HD.out.c
    cases cc with
    | false =>
      go_wp2_with fail
      go_meet
      exact ⟨rfl, _, rfl, HD⟩
    | true =>
      have HP := Lib.hid (HD.out.put ge 0 ⟨#[]⟩)
      go_wp2_with fail
      go_meet
      exact ⟨rfl, _, rfl, HP⟩
  case rest =>
  clear HD
  obtain ⟨rfl, v1, hv1, HD⟩ := hcut
  rw [← hv1] at HJ
  clear hv1 HO HU
  obtain ⟨we, wn, wd⟩ := v1
  go_upto_region 3 with (fail)
  go_cut [35] (fun v wx => v = .bool (decide (k = 8 ∧ we = 0 ∧ ge = 10)) ∧ Hid (Jd W wx W.heap.size X Y k ⟨we, wn, wd⟩ ⟨ge, gn, gd⟩))
  case first =>
    obtain ⟨c0, c1, c2, c3, c4, c5, c6, c7, c8, c9⟩ := HD.out.c
    by_cases h1 : k = 8
    · subst h1
      by_cases h2 : we = 0
      · subst h2
        go_wp2_with fail
        go_meet
        exact ⟨by by_cases h3 : ge = 10 <;> simp [h3], HD⟩
      · have h2' : (we == 0) = false := by simpa using h2
        go_wp2_with fail
        go_meet
        exact ⟨by simp [h2], HD⟩
    · have h1' : (k == 8) = false := by simpa using h1
      go_wp2_with fail
      go_meet
      exact ⟨by simp [h1], HD⟩
  case rest =>
  clear HD
  obtain ⟨rfl, HD⟩ := hcut
  go_upto_if 35 with (fail)
  go_cut [6] (fun v wx => v = .int .i64 0 ∧ ∃ v1 : Res, v1 = mk2 k ⟨we, wn, wd⟩ ⟨ge, gn, gd⟩ ∧ Hid (Jd W wx W.heap.size X Y k v1 ⟨ge, gn, gd⟩))
  case first =>
    obtain ⟨c0, c1, c2, c3, c4, c5, c6, c7, c8, c9⟩ := HD.out.c
    by_cases h1 : k = 8 ∧ we = 0 ∧ ge = 10
    · have HP := Lib.hid (HD.out.put0 10)
      have hd : decide (k = 8 ∧ we = 0 ∧ ge = 10) = true := decide_eq_true h1
      rw [hd]
      have H1 := Lib.hid h1
      clear h1 hd
      go_wp2_with fail
      go_meet
      exact ⟨rfl, _, by unfold mk2; rw [if_pos H1.out], HP⟩
    · have hd : decide (k = 8 ∧ we = 0 ∧ ge = 10) = false := decide_eq_false h1
      rw [hd]
      have H1 := Lib.hid h1
      clear h1 hd
      go_wp2_with fail
      go_meet
      exact ⟨rfl, _, by unfold mk2; rw [if_neg H1.out], HD⟩
  case rest =>
  clear HD
  obtain ⟨rfl, v1, hv1, HD⟩ := hcut
  rw [← hv1] at HJ
  clear hv1
  obtain ⟨we, wn, wd⟩ := v1
  obtain ⟨c0, c1, c2, c3, c4, c5, c6, c7, c8, c9⟩ := HD.out.c
  have HB := Lib.hid HD.out.bel
  clear HD
  have HJ2 : Hid (r = if ge = we ∧ gn = wn ∧ gd = wd then 0 else if k = 8 ∧ ge ≠ we then 3 else if ge = we ∧ gn = wn then 1 else 2) := HJ
  clear HJ
  by_cases h1 : ge = we
  · subst h1
    by_cases h2 : gn = wn
    · subst h2
      by_cases h3 : gd = wd
      · subst h3
        have HR : r = 0 := (by have := HJ2.out; simpa using this)
        subst HR
        clear HJ2
        go_wp2_with fail
        go_ret
        exact RetW.mk rfl HB.out
      · have HR : r = 1 := (by have := HJ2.out; simpa [h3] using this)
        subst HR
        clear HJ2
        have HN := Lib.hid h3
        have h3a : ¬ gd.toList = wd.toList := fun e => h3 (by
          rw [ByteArray.toList_eq, ByteArray.toList_eq] at e
          cases gd; cases wd; simp_all [Array.toList_inj])
        clear h3
        by_cases h4 : k = 8
        · subst h4
          go_wp2_with fail
          go_ret
          exact RetW.mk rfl HB.out
        · have h4' : (k == 8) = false := by simpa using h4
          go_wp2_with fail
          go_ret
          exact RetW.mk rfl HB.out
    · have HR : r = 2 := (by have := HJ2.out; simpa [h2] using this)
      subst HR
      have h2' : (gn == wn) = false := by simpa using h2
      clear HJ2
      by_cases h4 : k = 8
      · subst h4
        go_wp2_with fail
        go_ret
        exact RetW.mk rfl HB.out
      · have h4' : (k == 8) = false := by simpa using h4
        go_wp2_with fail
        go_ret
        exact RetW.mk rfl HB.out
  · have h1' : (ge == we) = false := by simpa using h1
    by_cases h4 : k = 8
    · subst h4
      have HR : r = 3 := (by have := HJ2.out; simpa [h1] using this)
      subst HR
      clear HJ2
      go_wp2_with fail
      go_ret
      exact RetW.mk rfl HB.out
    · have HR : r = 2 := (by have := HJ2.out; simpa [h1, h4] using this)
      subst HR
      clear HJ2
      have h4' : (k == 8) = false := by simpa using h4
      go_wp2_with fail
      go_ret
      exact RetW.mk rfl HB.out
end Go.Proofs.YtimhaidiclbnhaaGreat.Ver
