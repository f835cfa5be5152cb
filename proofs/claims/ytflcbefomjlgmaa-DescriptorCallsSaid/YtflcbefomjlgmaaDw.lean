/- Descriptors of which some are not right. -/
import Derived.Test.YtflcbefomjlgmaaDd
import Derived.Test.YtflcbefomjlgmaaCp
set_option linter.unusedSimpArgs false
set_option linter.unusedVariables false
namespace Go.Proofs.Ytflcbefomjlgmaa
open Go.ChangeShapes Go.WideShapes Go.ChangeAt Go.RowKit

theorem tape_start' (w : World) (a : Option Addr) (len cap : Nat) (ha : ArgRow w a len) (hl : len ≤ maxLen) : TP w w.heap.size a len cap (w.alloc (.cells #[.slice a len cap, .int .i64 0] 25)) :=
  ⟨0, ha, Nat.le_refl _, by simp, (Below.refl _ _).alloc (Nat.le_refl _) _, by simp, by simp, by simp, Nat.zero_le _, hl⟩
theorem descs_v' (w0 w : World) (t : Nat) (a : Option Addr) (len cap : Nat) (h : TP w0 t a len cap w) :
    Calls Try.prog 29 #[.pointer (some ⟨t, 0, none⟩)] w fun e w' => ∃ x : Dv, e = .returned (.agg #[.slice x.oa x.o.length x.oc, .slice x.ta x.t.length x.tc]) ∧ Rt x.pl ∧ DIn w' x ∧ (∀ b, DBlk x b → w.heap.size ≤ b) ∧ Tock t w w' ∧ TP w0 t a len cap w' :=
  (descs_any w0 w t a len cap h).mono fun e w' ⟨x, h1, h2, h3, h4, h5, h6⟩ => ⟨x, h1, h2, h3, h4, h5, h6⟩
theorem Tock.belowTo {t B : Nat} {w W W' : World} (h : Tock t w W) (hb : Below B W W') (hB : w.heap.size ≤ B) : Tock t w W' :=
  ⟨hb.os.trans h.os, hb.tape.trans h.tape, hb.output.trans h.output, Nat.le_trans h.size hb.size, fun k hk hl => (hb.block k (Nat.lt_of_lt_of_le hl hB)).trans (h.block k hk hl)⟩
theorem own_tock {W W' : World} {t B n size : Nat} {e : TypeId} {v : Value} {xs : List Value} (h : W.ownsRow B e size v n xs) (hk : Tock t W W') (hB : t < B) : W'.ownsRow B e size v n xs := by
  refine ⟨h.1, ?_⟩
  rcases h.2 with hn | ⟨g, cap, cur, rfl, hg, hgg, rest⟩
  · exact Or.inl hn
  · exact Or.inr ⟨g, cap, cur, rfl, hg, by rw [hk.block g (by omega) (Array.getElem?_eq_some_iff.1 hgg).1]; exact hgg, rest⟩
theorem Wk.tock {B b t : Nat} {W W' : World} {x : Dv} (h : Wk B W b x) (hk : Tock t W W') (hB : t < B) : Wk B W' b x :=
  ⟨⟨own_tock h.own.o hk hB, own_tock h.own.t hk hB, fun y hy => own_tock (h.own.e y hy) hk hB, h.own.d⟩, h.box.tock hk (by have := h.lo; omega), h.lo⟩
/-- the tape, and the answer's variable -/
structure Dk (w0 w : World) (t : Nat) (a : Option Addr) (len cap : Nat) (W : World) : Prop where
  tp : TP w0 t a len cap W
  tk : Tock t w W
  r : At W w.heap.size [.slice none 0 0, .slice none 0 0]
  ht : t < w.heap.size
theorem Dk.below {w0 w W W' : World} {t B : Nat} {a : Option Addr} {len cap : Nat} (h : Dk w0 w t a len cap W) (hb : Below B W W') (hB : w.heap.size < B) : Dk w0 w t a len cap W' :=
  ⟨h.tp.below hb (by have := h.ht; omega), h.tk.belowTo hb (by omega), h.r.below hb hB, h.ht⟩
theorem Dk.belowS {w0 w W W' : World} {t : Nat} {a : Option Addr} {len cap : Nat} (h : Dk w0 w t a len cap W) (hb : Below W.heap.size W W') : Dk w0 w t a len cap W' := h.below hb h.r.hi
theorem Dk.tick {w0 w W W' : World} {t : Nat} {a : Option Addr} {len cap : Nat} (h : Dk w0 w t a len cap W) (hk : Tick t W W') (hp : TP w0 t a len cap W') : Dk w0 w t a len cap W' :=
  ⟨hp, h.tk.trans hk.tock, h.r.tick hk (by have := h.ht; omega), h.ht⟩
theorem Dk.tock {w0 w W W' : World} {t : Nat} {a : Option Addr} {len cap : Nat} (h : Dk w0 w t a len cap W) (hk : Tock t W W') (hp : TP w0 t a len cap W') : Dk w0 w t a len cap W' :=
  ⟨hp, h.tk.trans hk, h.r.tock hk (by have := h.ht; omega), h.ht⟩
/-- ahead of the end -/
structure Df (w0 w : World) (t : Nat) (a : Option Addr) (len cap : Nat) (W : World) (O : Nat) (y : Dv) : Prop where
  dk : Dk w0 w t a len cap W
  box : Bx W O y
  di : DIn W y
  blk : ∀ b, DBlk y b → w.heap.size < b
  sz : DSz y
  t1 : 1 ≤ y.t.length
  t8 : y.t.length ≤ 8
theorem Df.ofWk {w0 w W : World} {t : Nat} {a : Option Addr} {len cap B O : Nat} {y : Dv} (hd : Dk w0 w t a len cap W) (h : Wk B W O y) (hB : w.heap.size < B) (sz : DSz y) (t1 : 1 ≤ y.t.length) (t8 : y.t.length ≤ 8) : Df w0 w t a len cap W O y :=
  ⟨hd, h.box, h.own.in, fun b hb => Nat.lt_of_lt_of_le hB (h.own.blk hb).1, sz, t1, t8⟩
def DwPost (w0 w : World) (t : Nat) (a : Option Addr) (len cap : Nat) (e : Ending) (w' : World) : Prop :=
  ∃ x : Dv, e = .returned (.agg #[.slice x.oa x.o.length x.oc, .slice x.ta x.t.length x.tc]) ∧ DSz x ∧ 1 ≤ x.t.length ∧ x.t.length ≤ 8 ∧ DIn w' x ∧ (∀ b, DBlk x b → w.heap.size ≤ b) ∧ Tock t w w' ∧ TP w0 t a len cap w'
theorem Df.fin {w0 w W : World} {t : Nat} {a : Option Addr} {len cap O : Nat} {y : Dv} (h : Df w0 w t a len cap W O y) :
    At ((W.setCell ⟨w.heap.size, 0, none⟩ (.slice y.oa y.o.length y.oc)).setCell ⟨w.heap.size, 1, none⟩ (.slice y.ta y.t.length y.tc)) w.heap.size [.slice y.oa y.o.length y.oc, .slice y.ta y.t.length y.tc] ∧
      DwPost w0 w t a len cap (.returned (.agg #[.slice y.oa y.o.length y.oc, .slice y.ta y.t.length y.tc])) ((W.setCell ⟨w.heap.size, 0, none⟩ (.slice y.oa y.o.length y.oc)).setCell ⟨w.heap.size, 1, none⟩ (.slice y.ta y.t.length y.tc)) := by
  have hlo := h.dk.tp.lo
  have ht := h.dk.ht
  refine ⟨ret_ab h.dk.r _ _, y, rfl, h.sz, h.t1, h.t8, ?_, fun b hb => Nat.le_of_lt (h.blk b hb), ?_, (h.dk.tp.set (by omega) (by omega) _ _).set (by omega) (by omega) _ _⟩
  · exact (h.di.keepB (by simp [World.setCell]) fun b hb => Below.heap_setCell W ⟨w.heap.size, 0, none⟩ _ b (by have := h.blk b hb; show b ≠ w.heap.size; omega)).keepB (by simp [World.setCell]) fun b hb => Below.heap_setCell _ ⟨w.heap.size, 1, none⟩ _ b (by have := h.blk b hb; show b ≠ w.heap.size; omega)
  · exact h.dk.tk.belowTo (((Below.refl w.heap.size W).setCell (p := ⟨w.heap.size, 0, none⟩) (Nat.le_refl _) _).setCell (p := ⟨w.heap.size, 1, none⟩) (Nat.le_refl _) _) (Nat.le_refl _)
theorem Df.drew {w0 w W : World} {t : Nat} {a : Option Addr} {len cap O : Nat} {y : Dv} (h : Df w0 w t a len cap W O y) : Df w0 w t a len cap W.drew O y :=
  ⟨h.dk.belowS (Below.refl _ _).drew, h.box.below (Below.refl W.heap.size W).drew h.box.at'.hi, h.di.below (Below.refl _ _).drew, h.blk, h.sz, h.t1, h.t8⟩
theorem gen_st {K : World → Prop} {W : World} {A : Addr} {z : Int} {D : World → Prop} (h : ∀ z : Int, D (W.setCell A (.int .i64 z))) (k : ∀ w8, Hid (D w8) → K w8) : K (W.setCell A (.int .i64 z)) := k _ (h z)
/-- descriptors are right but for one change -/
structure Ok (y : Dv) : Prop where
  sz : DSz y
  t1 : 1 ≤ y.t.length
  t8 : y.t.length ≤ 8
  l16 : (y.t.getD 0 Tb.nil).l.length = 16
  o : y.o.length ≤ 128
  rf : ∀ i, i < y.o.length → 0 ≤ (y.o.getD i Dn.zero).rf ∧ (y.o.getD i Dn.zero).rf ≤ 128
theorem nref_le {d : De} (h : Rt d) (i : Nat) : nref d.t i ≤ 128 := by
  have h1 := flat_len h.rows
  have h2 : nref d.t i ≤ d.t.flatten.length := List.count_le_length
  have := h.t8
  omega
theorem Ok.of {x y : Dv} (h : Rt x.pl) (ho : y.o = x.o) (ht : y.t.map Tb.l = x.t.map Tb.l) : Ok y := by
  have e : y.pl = x.pl := De.ext' ho ht
  have h' : Rt y.pl := e ▸ h
  have h1 := h'.t1
  have h8 := h'.t8
  have ho := h'.o128
  rw [pl_t] at h1 h8
  refine ⟨(check_sz (rt_check h')).sz rfl, h1, h8, ?_, ho, fun i hi => ?_⟩
  · have := h'.rows 0 (by rw [pl_t]; omega)
    rwa [show y.pl.t = y.t.map Tb.l from rfl, map_getD _ _ (by omega)] at this
  · have h1 := h'.rf i hi
    have h2 := nref_le h' i
    have h3 : (y.o.getD i Dn.zero).rf = (nref y.pl.t i : Int) := h1
    omega
theorem Ok.setO {y : Dv} (h : Ok y) (i : Nat) (a : Dn) : DSz ⟨y.oa, y.oc, y.o.set i a, y.ta, y.tc, y.t⟩ := ⟨by rw [List.length_set]; exact h.sz.o, h.sz.t, h.sz.e⟩
theorem Ok.setT {y : Dv} (h : Ok y) (z : Tb) (hz : z.l.length ≤ 10000) : DSz ⟨y.oa, y.oc, y.o, y.ta, y.tc, y.t.set 0 z⟩ := ⟨h.sz.o, by rw [List.length_set]; exact h.sz.t, fun b hb => by
  rcases mem_set hb with hb | rfl
  · exact h.sz.e _ hb
  · exact hz⟩
/-- a number of a description is stored -/
theorem dw_desc {w0 w W : World} {t : Nat} {a : Option Addr} {len cap B O g : Nat} {y : Dv} (hd : Dk w0 w t a len cap W) (h : Wk B W O y) (hB : w.heap.size < B) (ok : Ok y) (hg : y.oa = some ⟨g, 0, none⟩) (i : Nat) (hi : i < y.o.length) (o : Nat) (ho : o < 5) (z : Int) (b : Dn) (hb : b.cells = (y.o.getD i Dn.zero).cells.set o (.int .i64 z)) :
    ∃ y', Df w0 w t a len cap (W.setCell ⟨g, i * 5 + o, none⟩ (.int .i64 z)) O y' := by
  have hgB := h.own.o
  rw [hg] at hgB
  have hgl := (own_lt hgB).1
  exact ⟨_, Df.ofWk (hd.below ((Below.refl B W).setCell (p := ⟨g, i * 5 + o, none⟩) hgl _) hB) (h.putC hg i hi o ho _ b hb) hB (ok.setO i b) ok.t1 ok.t8⟩
theorem dw_num {w0 w W : World} {t : Nat} {a : Option Addr} {len cap B O g : Nat} {y : Dv} (hd : Dk w0 w t a len cap W) (h : Wk B W O y) (hB : w.heap.size < B) (ok : Ok y) (hg : (y.t.getD 0 Tb.nil).a = some ⟨g, 0, none⟩) (j : Nat) (z : Int) :
    ∃ y', Df w0 w t a len cap (W.setCell ⟨g, j, none⟩ (.int .i64 z)) O y' := by
  have ht1 := ok.t1
  have hmem : y.t.getD 0 Tb.nil ∈ y.t := by rw [getD_get (by omega)]; exact List.getElem_mem _
  have hgB := h.own.e _ hmem
  unfold Tb.val at hgB
  rw [hg] at hgB
  have hgl := (own_lt hgB).1
  refine ⟨_, Df.ofWk (hd.below ((Below.refl B W).setCell (p := ⟨g, j, none⟩) hgl _) hB) (h.putT 0 (by omega) hg j z) hB ?_ (by rw [tset_len]; exact ok.t1) (by rw [tset_len]; exact ok.t8)⟩
  exact ok.setT _ (by rw [List.length_set, ok.l16]; omega)
/-- the first table loses its first number -/
theorem dw_cut {w0 w W : World} {t : Nat} {a : Option Addr} {len cap B O g g2 : Nat} {y : Dv} (hd : Dk w0 w t a len cap W) (h : Wk B W O y) (hB : w.heap.size < B) (ok : Ok y) (hg : y.ta = some ⟨g, 0, none⟩) (hg2 : (y.t.getD 0 Tb.nil).a = some ⟨g2, 0, none⟩) :
    ∃ y', Df w0 w t a len cap (W.setCell ⟨g, 0, none⟩ (.slice (some ⟨g2, 1, none⟩) 15 ((y.t.getD 0 Tb.nil).c - 1))) O y' := by
  have ht1 := ok.t1
  have h16 := ok.l16
  have hmem : y.t.getD 0 Tb.nil ∈ y.t := by rw [getD_get (by omega)]; exact List.getElem_mem _
  have hot := h.own.t
  rw [hg] at hot
  have hgl := (own_lt hot).1
  have tyg := own_heap hot
  have hO : O ≠ g := h.neR hg
  have hdi := h.own.in
  have hrow := hdi.tab 0 (by omega)
  obtain ⟨T, hT⟩ : ∃ T, T = y.t.getD 0 Tb.nil := ⟨_, rfl⟩
  rw [← hT] at hg2 h16 hmem hrow ⊢
  obtain ⟨N, hN⟩ : ∃ N : Tb, N = ⟨some ⟨g2, 1, none⟩, T.c - 1, T.l.tail⟩ := ⟨_, rfl⟩
  have hNv : N.val = .slice (some ⟨g2, 1, none⟩) 15 (T.c - 1) := by rw [hN]; unfold Tb.val; rw [List.length_tail, h16]
  rw [← hNv]
  have hst := (hot.stored 0 N.val).1
  rw [← List.map_set] at hst
  have hsize : W.heap.size ≤ (W.setCell ⟨g, 0, none⟩ N.val).heap.size := by simp [World.setCell]
  have hk : ∀ b, b ≠ g → (W.setCell ⟨g, 0, none⟩ N.val).heap[b]? = W.heap[b]? := fun b hb => Below.heap_setCell W ⟨g, 0, none⟩ _ b hb
  have hrk : ∀ {a : Option Addr} {n cap : Nat} {cs : List Value}, RowOf W a n cap cs → (∀ q, a = some q → q.block ≠ g) → RowOf (W.setCell ⟨g, 0, none⟩ N.val) a n cap cs := fun hr hne =>
    hr.keep hsize fun g' o' e _ i => World.cell?_of_block (w := W) (a := ⟨g', i, none⟩) (hk g' (hne _ e))
  have hbn : ∀ z, z ∈ y.t → ∀ q, z.a = some q → q.block ≠ g := fun z hz q hq e => own_ne2 (h.own.e z hz) tyg (by decide) q.block (by unfold Tb.val; rw [hq]; rfl) e
  have hTb : W.cell? ⟨g2, 0, none⟩ ≠ none → True := fun _ => trivial
  refine ⟨⟨y.oa, y.oc, y.o, y.ta, y.tc, y.t.set 0 N⟩, hd.below ((Below.refl B W).setCell (p := ⟨g, 0, none⟩) hgl _) hB, ?_, ⟨?_, ?_, fun z hz => ?_⟩, fun b hb => ?_, ok.setT N (by rw [hN, List.length_tail, h16]; omega), by rw [List.length_set]; exact ok.t1, by rw [List.length_set]; exact ok.t8⟩
  · have := h.box.other (p := ⟨g, 0, none⟩) hO N.val
    exact ⟨by rw [List.length_set]; exact this.at', this.ty⟩
  · refine hrk hdi.o fun q hq e => own_ne2 h.own.o tyg (by decide) q.block (by rw [hq]; rfl) e
  · show RowOf _ y.ta (y.t.set 0 N).length y.tc ((y.t.set 0 N).map Tb.val)
    rw [List.length_set, hg]
    exact RowOf.ofOwn hst
  · rcases mem_set hz with hz | hz
    · exact hrk (hdi.e z hz) (hbn z hz)
    · rw [hz, show RowOf (W.setCell ⟨g, 0, none⟩ N.val) N.a N.l.length N.c (ints N.l) = RowOf (W.setCell ⟨g, 0, none⟩ N.val) (some ⟨g2, 1, none⟩) T.l.tail.length (T.c - 1) (ints T.l.tail) from by rw [hN]]
      refine hrk ?_ (fun q hq => ?_)
      · rcases hrow with ⟨e, _⟩ | ⟨g', o', e1, e2, e3, e4, e5⟩
        · rw [hg2] at e; cases e
        · rw [hg2] at e1; cases e1
          refine Or.inr ⟨g2, 1, rfl, e2, by rw [List.length_tail]; omega, by omega, fun j v hj => ?_⟩
          have hj' : (ints T.l)[1 + j]? = some v := by
            rw [← hj]
            simp [ints, List.getElem?_tail, Nat.add_comm]
          have := e5 (1 + j) v hj'
          rwa [Nat.zero_add] at this
      · cases hq
        exact hbn T hmem ⟨g2, 0, none⟩ hg2
  · rcases hb with ⟨q, h1, h2⟩ | ⟨q, h1, h2⟩ | ⟨z, hz, q, h1, h2⟩
    · exact Nat.lt_of_lt_of_le hB (h.own.blk (Or.inl ⟨q, h1, h2⟩)).1
    · exact Nat.lt_of_lt_of_le hB (h.own.blk (Or.inr (Or.inl ⟨q, h1, h2⟩))).1
    · rcases mem_set hz with hz | rfl
      · exact Nat.lt_of_lt_of_le hB (h.own.blk (Or.inr (Or.inr ⟨z, hz, q, h1, h2⟩))).1
      · rw [hN] at h1; cases h1
        exact Nat.lt_of_lt_of_le hB (h.own.blk (Or.inr (Or.inr ⟨T, hmem, _, hg2, h2⟩))).1
set_option maxRecDepth 100000 in
set_option maxHeartbeats 16000000 in
theorem drawn_any (w0 w : World) (t : Nat) (a : Option Addr) (len cap : Nat) (h : TP w0 t a len cap w) :
    Calls Try.prog 7 #[.pointer (some ⟨t, 0, none⟩)] w (DwPost w0 w t a len cap) := by
  have HN : Hid (∀ (n : Int) W, 1 ≤ n → n ≤ 1000000 → TP w0 t a len cap W → Calls Try.prog 8 #[.pointer (some ⟨t, 0, none⟩), .int .i64 n] W fun e w' => ∃ r : Int, 0 ≤ r ∧ r < n ∧ e = .returned (.int .i64 r) ∧ Tick t W w' ∧ TP w0 t a len cap w') := fun n W h1 h2 h3 => next_tp n w0 W _ _ _ _ h1 h2 h3
  have HOdd : Hid (∀ W, TP w0 t a len cap W → Calls Try.prog 9 #[.pointer (some ⟨t, 0, none⟩)] W fun e w' => ∃ r : Int, -9223372036854775808 ≤ r ∧ r ≤ 9223372036854775807 ∧ e = .returned (.int .i64 r) ∧ Tock t W w' ∧ TP w0 t a len cap w') := fun W h1 => odd_any w0 W _ _ _ _ h1
  have hti := h.hi
  have HD : Hid (Dk w0 w t a len cap (w.alloc (.cells #[.slice none 0 0, .slice none 0 0] 29))) :=
    ⟨h.below ((Below.refl w.heap.size w).alloc (Nat.le_refl _) _) h.hi, (Tock.refl t w).belowTo ((Below.refl w.heap.size w).alloc (Nat.le_refl _) _) (Nat.le_refl _), At.new w [.slice none 0 0, .slice none 0 0] 29, h.hi⟩
  have HP : Hid (∀ W O y, Df w0 w t a len cap W O y → At ((W.setCell ⟨w.heap.size, 0, none⟩ (.slice y.oa y.o.length y.oc)).setCell ⟨w.heap.size, 1, none⟩ (.slice y.ta y.t.length y.tc)) w.heap.size [.slice y.oa y.o.length y.oc, .slice y.ta y.t.length y.tc] ∧
      DwPost w0 w t a len cap (.returned (.agg #[.slice y.oa y.o.length y.oc, .slice y.ta y.t.length y.tc])) ((W.setCell ⟨w.heap.size, 0, none⟩ (.slice y.oa y.o.length y.oc)).setCell ⟨w.heap.size, 1, none⟩ (.slice y.ta y.t.length y.tc))) := fun W O y h => h.fin
  clear h
  generalize DwPost w0 w t a len cap = Post at *
  go_enter Try.func7, Try.ntmps7
  go_upto_region 1 with (fail)
  generalize w.alloc (.cells #[.slice none 0 0, .slice none 0 0] 29) = w1 at *
  go_wp2_with fail
  refine (descs_v' _ _ _ _ _ _ HD.out.tp).mono ?_
  rintro e w2 ⟨x, rfl, hrt, hdi, hlo, hk, tp⟩
  replace HD := Lib.hid (HD.out.tock hk tp)
  clear hk tp hlo
  go_upto_region 2 with (fail)
  have hb3 : Below w2.heap.size w2 (w2.alloc (.cells #[.slice x.oa x.o.length x.oc, .slice x.ta x.t.length x.tc] 29)) := (Below.refl _ _).alloc (Nat.le_refl _) _
  have h3 := hdi.below hb3
  replace HD := Lib.hid (HD.out.belowS hb3)
  have hP3 := Bx.new w2 x
  have hPl : w2.heap.size < (w2.alloc (.cells #[.slice x.oa x.o.length x.oc, .slice x.ta x.t.length x.tc] 29)).heap.size := by simp
  clear hb3 hdi
  generalize w2.alloc (.cells #[.slice x.oa x.o.length x.oc, .slice x.ta x.t.length x.tc] 29) = W0 at *
  generalize w2.heap.size = P at *
  have HOK : Hid (∀ y : Dv, y.o = x.o → y.t.map Tb.l = x.t.map Tb.l → Ok y) := fun y h1 h2 => Ok.of hrt h1 h2
  have hzz : DSz x := (check_sz (rt_check hrt)).sz rfl
  obtain ⟨hp0, hp1, _, _, _⟩ := hP3.cc
  have HP1 : Hid (∀ W, Below W0.heap.size W0 W → W.cell? ⟨P, 1, none⟩ = some (.slice x.ta x.t.length x.tc)) := fun W hbW => (hbW.cell (p := ⟨P, 1, none⟩) hPl).trans hp1
  have HR := Lib.hid h3.rows
  have HRW : Hid (∀ W, Below W0.heap.size W0 W → ∀ k, k < x.t.length → RowOf W (x.t.getD k Tb.nil).a (x.t.getD k Tb.nil).l.length (x.t.getD k Tb.nil).c (ints (x.t.getD k Tb.nil).l)) := fun W hb k hk => (h3.below hb).tab k hk
  have HSE : Hid (∀ k, k < x.t.length → (x.t.getD k Tb.nil).l.length ≤ 10000) := fun k hk => hzz.e _ (by rw [getD_get hk]; exact List.getElem_mem hk)
  have hot := hzz.t
  have hoo := hzz.o
  obtain ⟨a', c', w4, hrun, ho1, hgr⟩ := append_descs W0 W0.heap.size x.oa x.oc x.o h3.o hzz.o (Nat.le_refl _)
  have hRB : w.heap.size < W0.heap.size := HD.out.r.hi
  have hb4 : Below W0.heap.size W0 w4 := below_grown hgr
  have HAP := Lib.hid hrun
  have hlt : W0.heap.size ≤ w4.heap.size := hb4.size
  have how := ownsRow_below ho1 ((Below.refl w4.heap.size w4).alloc (Nat.le_refl _) (Obj.cells #[.slice a' x.o.length c', .slice none 0 0] 29))
  have hW : Wk W0.heap.size (w4.alloc (Obj.cells #[.slice a' x.o.length c', .slice none 0 0] 29)) w4.heap.size ⟨a', c', x.o, none, 0, []⟩ :=
    ⟨⟨how, ⟨rfl, Or.inl ⟨rfl, rfl⟩⟩, (fun y hy => by cases hy), List.Pairwise.nil⟩, Bx.new w4 ⟨a', c', x.o, none, 0, []⟩, hlt⟩
  have hB2 : Below W0.heap.size W0 (w4.alloc (Obj.cells #[.slice a' x.o.length c', .slice none 0 0] 29)) := hb4.alloc hlt _
  have HWk := Lib.hid hW
  have HB2 := Lib.hid hB2
  have HD0 := HD
  have hne0 : P ≠ w4.heap.size := by omega
  clear hb4 how ho1 hgr hW hB2 hrun h3 hP3 hzz hrt
  obtain ⟨oa, oc, o, ta, tc, tt⟩ := x
  simp only at *
  go_upto_region 3 with (at_builtin; refine Lib.wpList_append_run _ rfl _ _ _ _ rfl _ _ rfl rfl _ _ HAP.out ?_)
  clear HAP hp0 hp1
  generalize w4.alloc (Obj.cells #[.slice a' o.length c', .slice none 0 0] 29) = w5 at *
  generalize w4.heap.size = O at *
  go_wp2_with fail
  go_loopw [5] (fun v4 wr => ∃ (k : Nat) (y : Dv), k ≤ tt.length ∧ v4 = .int .i64 k ∧ Hid (y.o = o ∧ y.t.map Tb.l = (tt.map Tb.l).take k) ∧ Hid (Wk W0.heap.size wr O y) ∧ Hid (Below W0.heap.size W0 wr)) (fun v4 _ => 2000 - (intOf v4).toNat)
  case atStart => exact ⟨0, ⟨a', c', o, none, 0, []⟩, Nat.zero_le _, rfl, ⟨rfl, rfl⟩, HWk, HB2⟩
  case round =>
    clear HD
    obtain ⟨k, y, hk, rfl, HY, HW, HB⟩ := hrel
    obtain ⟨x0, x1, x2, x3, x4⟩ := HW.out.box.cc
    have hpc := HP1.out wr HB.out
    by_cases hlt2 : k < tt.length
    · have hlt' : (k : Int) < (tt.length : Int) := by omega
      obtain ⟨g, of, rfl, q1, q2, hcell, _⟩ := HR.out wr HB.out k hlt2
      have hrow := HRW.out wr.drew HB.out.drew k hlt2
      have hye := HSE.out k hlt2
      have htk : (tt.map Tb.l).take (k + 1) = (tt.map Tb.l).take k ++ [(tt.getD k Tb.nil).l] := by
        rw [List.take_add_one, List.getElem?_map, List.getElem?_eq_getElem hlt2, getD_get hlt2]; rfl
      have HTK := Lib.hid htk
      clear htk HRW HSE HR HWk HB2 HOK HOdd HN HP
      generalize tt.getD k Tb.nil = q at *
      obtain ⟨ya, yc, yl⟩ := q
      simp only at hcell hrow hye HTK
      have HYL : Hid (y.t.length = k) := by
        have := congrArg List.length HY.out.2
        rw [List.length_map, List.length_take, List.length_map] at this
        rw [Hid, this]; omega
      have hwlt : W0.heap.size ≤ wr.heap.size := HB.out.size
      obtain ⟨aY, cY, w6, hrun1, hown1, hgr1, hfr1⟩ := append_ints wr.drew W0.heap.size ya yc yl hrow hye hwlt
      have hb6 : Below wr.heap.size wr w6 := ((Below.refl _ wr).drew).trans (below_grown hgr1)
      have hW6 : Wk W0.heap.size w6 O y := HW.out.below hb6
      obtain ⟨yn, hyn⟩ : ∃ yn : Tb, yn = ⟨aY, cY, yl⟩ := ⟨_, rfl⟩
      have hb7 : Below w6.heap.size w6 (w6.alloc (Obj.cells #[Value.slice aY yl.length cY] 22)) := (Below.refl _ _).alloc (Nat.le_refl _) _
      have hc7 : (w6.alloc (Obj.cells #[Value.slice aY yl.length cY] 22)).cell? ⟨w6.heap.size, 0, none⟩ = some yn.val := by rw [hyn]; simp [Tb.val]
      have hW7k : Wk W0.heap.size (w6.alloc (Obj.cells #[Value.slice aY yl.length cY] 22)) O y := hW6.below hb7
      have hs6 : wr.heap.size ≤ w6.heap.size := hb6.size
      have hlt7 : W0.heap.size ≤ (w6.alloc (Obj.cells #[Value.slice aY yl.length cY] 22)).heap.size := by have := hb7.size; omega
      obtain ⟨aN, cN, wN, hrun, hown, hbox, hbN⟩ := append_tab _ W0.heap.size O y yn w6.heap.size hW7k hc7 (by rw [hyn]; exact ownsRow_below hown1 hb7) (by
        intro z hz p q hp hq
        rw [hyn] at hq
        have h1 := hfr1 q hq
        have h2 := (HW.out.own.e z hz).lt p.block (by unfold Tb.val; rw [hp]; rfl)
        have h3 : wr.drew.heap.size = wr.heap.size := rfl
        omega) (by have := HYL.out; omega) hlt7
      have HAP1 := Lib.hid hrun1
      have HAP := Lib.hid hrun
      have HWN : Hid (Wk W0.heap.size (wN.setCell ⟨O, 1, none⟩ (.slice aN (y.t.length + 1) cN)) O ⟨y.oa, y.oc, y.o, aN, cN, y.t ++ [yn]⟩) := Wk.boxT hown hbox HW.out.lo (by simp)
      have HBN : Hid (Below W0.heap.size W0 (wN.setCell ⟨O, 1, none⟩ (.slice aN (y.t.length + 1) cN))) := (((HB.out.trans (hb6.mono hwlt)).trans (hb7.mono (by omega))).trans hbN).setCell (p := ⟨O, 1, none⟩) HW.out.lo _
      have HYN : Hid ((y.t ++ [yn]).map Tb.l = (tt.map Tb.l).take (k + 1)) := by
        rw [Hid, List.map_append, HY.out.2, HTK.out, hyn]; rfl
      obtain ⟨z0, z1, z2, z3, z4⟩ := hbox.cc
      have hO6 : O < w6.heap.size := by omega
      obtain ⟨u0, u1, u2, u3, u4⟩ := hW6.box.cc
      clear hrun hrun1 hown hbox hbN hown1 hgr1 hfr1 hW6 hW7k hc7 hb7 hb6 hrow
      go_wp2_with fail
      go_region_law (first | (refine step_append_runI rfl (.const (.slice none 0 0)) (.tmp 25) 22 rfl (.slice none 0 0) (.slice ya yl.length yc) (by simp [Act.eval, Act.put]) (by simp [Act.eval, Act.put]) HAP1.out ?_) | (refine step_append_runI rfl (.tmp 20) (.tmp 27) 27 rfl (.slice y.ta y.t.length y.tc) (.slice (some ⟨w6.heap.size, 0, none⟩) 1 1) (by simp [Act.eval, Act.put]) (by simp [Act.eval, Act.put]) HAP.out ?_))
      all_goals
        clear HAP HAP1
        go_wp2_with fail
        go_roundw
        case rel => exact ⟨k + 1, ⟨y.oa, y.oc, y.o, aN, cN, y.t ++ [yn]⟩, by omega, by go_num, ⟨HY.out.1, HYN.out⟩, HWN, HBN⟩
        case measure => simp [intOf]; omega
    · obtain rfl : k = tt.length := by omega
      have htt : (tt.map Tb.l).take tt.length = tt.map Tb.l := List.take_of_length_le (by simp)
      have HK : Hid (Ok y) := HOK.out y HY.out.1 (by rw [HY.out.2, htt])
      have HD := Lib.hid (HD0.out.below HB.out hRB)
      have HBB : Hid (t < W0.heap.size) := by have : t < w.heap.size := hti; show t < W0.heap.size; omega
      have HRB : Hid (w.heap.size < W0.heap.size) := hRB
      clear HY HB HP1 HR HRW HSE HWk HB2 HOK HD0 x0 x1 x2 x3 x4 htt hot hoo hPl hRB hne0 hlt
      generalize W0.heap.size = B at *
      clear hlt2 hk
      go_upto_region 7 with (fail)
      clear hpc
      go_wp2_with fail
      refine (HN.out 16 _ (by omega) (by omega) HD.out.tp).mono ?_
      rintro e w6 ⟨r, hr0, hr1, rfl, hk, tp⟩
      replace HD := Lib.hid (HD.out.tick hk tp)
      replace HW := Lib.hid (HW.out.tock hk.tock HBB.out)
      clear hk tp
      by_cases h5 : 5 ≤ r
      · have n0 : (r == 0) = false := by simp; omega
        have n1 : (r == 1) = false := by simp; omega
        have n2 : (r == 2) = false := by simp; omega
        have n3 : (r == 3) = false := by simp; omega
        have n4 : (r == 4) = false := by simp; omega
        have HF := Lib.hid (Df.ofWk HD.out HW.out HRB.out HK.out.sz HK.out.t1 HK.out.t8)
        go_upto_region 20 with (fail)
        obtain ⟨f1, f2⟩ := HP.out _ _ _ HF.out
        have HPo := Lib.hid f2
        have e0 := f1.cell 0 _ rfl
        have e1 := f1.cell 1 _ rfl
        obtain ⟨x0, x1, x2, x3, x4⟩ := HF.out.box.cc
        obtain ⟨r0, r1, r2, r3, r4⟩ := HF.out.dk.r.two
        clear f1 f2
        go_wp2_with fail
        generalize ((w6.setCell ⟨w.heap.size, 0, none⟩ (.slice y.oa y.o.length y.oc)).setCell ⟨w.heap.size, 1, none⟩ (.slice y.ta y.t.length y.tc)) = w9 at *
        exact bodyPost_ret (v := .agg #[.slice y.oa y.o.length y.oc, .slice y.ta y.t.length y.tc]) (by simp [results, Try.results7, go_sem, e0, e1]) rfl HPo.out
      have h4 : r = 0 ∨ r = 1 ∨ r = 2 ∨ r = 3 ∨ r = 4 := by omega
      clear h5 hr0 hr1
      rcases h4 with rfl | rfl | rfl | rfl | rfl
      · by_cases hl : y.o.length = 0
        · skip
          have hl' : ¬ (0 : Int) < (y.o.length : Int) := by omega
          have HF := Lib.hid (Df.ofWk HD.out HW.out HRB.out HK.out.sz HK.out.t1 HK.out.t8)
          clear hl
          obtain ⟨x0, x1, x2, x3, x4⟩ := HF.out.box.cc
          go_upto_region 20 with (fail)
          obtain ⟨f1, f2⟩ := HP.out _ _ _ HF.out
          have HPo := Lib.hid f2
          have e0 := f1.cell 0 _ rfl
          have e1 := f1.cell 1 _ rfl
          obtain ⟨x0, x1, x2, x3, x4⟩ := HF.out.box.cc
          obtain ⟨r0, r1, r2, r3, r4⟩ := HF.out.dk.r.two
          clear f1 f2
          go_wp2_with fail
          generalize ((w6.setCell ⟨w.heap.size, 0, none⟩ (.slice y.oa y.o.length y.oc)).setCell ⟨w.heap.size, 1, none⟩ (.slice y.ta y.t.length y.tc)) = w9 at *
          exact bodyPost_ret (v := .agg #[.slice y.oa y.o.length y.oc, .slice y.ta y.t.length y.tc]) (by simp [results, Try.results7, go_sem, e0, e1]) rfl HPo.out
        · have hl1 : 1 ≤ (y.o.length : Int) := by omega
          have hl2 : (y.o.length : Int) ≤ 128 := by have := HK.out.o; omega
          obtain ⟨g, hg, hga, hgb, _, _, _, _⟩ := HW.out.own.descAt 0 (by omega)
          have HG := Lib.hid hg
          obtain ⟨x0, x1, x2, x3, x4⟩ := HW.out.box.cc
          rw [hg] at x0
          go_upto_region 10 with (fail)
          replace HD := Lib.hid (HD.out.below (Below.refl _ _).drew HRB.out)
          replace HW := Lib.hid HW.out.drew
          clear x0 x1 x2 x3 x4
          obtain ⟨x0, x1, x2, x3, x4⟩ := HW.out.box.cc
          rw [hg] at x0
          clear hg
          have HM1 : Hid True := trivial
          (first | go_region_with (first | (go_at_call 8; clear HM1; refine (HN.out _ _ (by omega) (by omega) HD.out.tp).mono ?_; rintro e wb ⟨r1, hq0, hq1, rfl, hk, tp⟩; replace HD := Lib.hid (HD.out.tick hk tp); replace HW := Lib.hid (HW.out.tock hk.tock HBB.out); clear hk tp x0 x1 x2 x3 x4; obtain ⟨x0, x1, x2, x3, x4⟩ := HW.out.box.cc; rw [HG.out] at x0; obtain ⟨i, rfl⟩ := Int.eq_ofNat_of_zero_le hq0; have HI : Hid (i < y.o.length) := (by show i < y.o.length; omega); obtain ⟨g', hg', _, _, ⟨k0, k1, k2, k3, k4⟩, _, _, k6⟩ := HW.out.own.descAt i HI.out; obtain rfl : g = g' := (by have := HG.out.symm.trans hg'; simpa using this); clear hg'; have hrf := HK.out.rf i HI.out; obtain ⟨q, hq⟩ : ∃ q, q = y.o.getD i Dn.zero := ⟨_, rfl⟩; rw [← hq] at k0 k1 k2 k3 k4 hrf; have HQ := Lib.hid hq; clear hq) | (go_at_call 8; refine (HN.out _ _ (by omega) (by omega) HD.out.tp).mono ?_; rintro e wc ⟨r2, hs0, hs1, rfl, hk, tp⟩; replace HD := Lib.hid (HD.out.tick hk tp); replace HW := Lib.hid (HW.out.tock hk.tock HBB.out); clear hk tp x0 x1 x2 x3 x4 k0 k1 k2 k3 k4; obtain ⟨x0, x1, x2, x3, x4⟩ := HW.out.box.cc; rw [HG.out] at x0; obtain ⟨g', hg', _, _, ⟨k0, k1, k2, k3, k4⟩, k5, _, k6⟩ := HW.out.own.descAt i HI.out; obtain rfl : g = g' := (by have := HG.out.symm.trans hg'; simpa using this); clear hg'; rw [← HQ.out] at k0 k1 k2 k3 k4; have HF : Hid (∀ z : Int, ∃ y', Df w0 w t a len cap (wc.setCell ⟨g, i * 5 + 4, none⟩ (.int .i64 z)) O y') := fun z => dw_desc HD.out HW.out HRB.out HK.out HG.out i HI.out 4 (by omega) z ⟨q.fi, q.fl, q.f, q.cu, z⟩ (by rw [← HQ.out]; rfl); have k5v := k5 (i * 5 + 4); clear k5)) | fail)
          all_goals
            refine gen_st (D := fun W => ∃ y', Df w0 w t a len cap W O y') HF.out ?_
            rintro w8 ⟨y1, h8⟩
            clear HF HD HW x0 x1 x2 x3 x4 k0 k1 k2 k3 k4 k5v k6 HQ HI HG HK
            have HF := Lib.hid h8
            clear h8
            obtain ⟨f1, f2⟩ := HP.out _ _ _ HF.out
            have HPo := Lib.hid f2
            have e0 := f1.cell 0 _ rfl
            have e1 := f1.cell 1 _ rfl
            obtain ⟨x0, x1, x2, x3, x4⟩ := HF.out.box.cc
            obtain ⟨r0, r1, r2, r3, r4⟩ := HF.out.dk.r.two
            clear f1 f2
            go_wp2_with fail
            generalize ((w8.setCell ⟨w.heap.size, 0, none⟩ (.slice y1.oa y1.o.length y1.oc)).setCell ⟨w.heap.size, 1, none⟩ (.slice y1.ta y1.t.length y1.tc)) = w9 at *
            exact bodyPost_ret (v := .agg #[.slice y1.oa y1.o.length y1.oc, .slice y1.ta y1.t.length y1.tc]) (by simp [results, Try.results7, go_sem, e0, e1]) rfl HPo.out
      · obtain ⟨g, g2, hg, hga, hgb, hg2, hc, hcl, hcc, hn, hfz, _, hlt, _⟩ := HW.out.own.tabAt 0 (by have := HK.out.t1; omega) (by rw [HK.out.l16]; decide)
        have h16 := HK.out.l16
        have HG2 := Lib.hid hg2
        have HG := Lib.hid hg
        have HC : Hid (∀ W, Wk B W O y → W.cell? ⟨g, 0, none⟩ = some (.slice (some ⟨g2, 0, none⟩) 16 (y.t.getD 0 Tb.nil).c) ∧ (∀ j : Nat, j < 16 → ∃ v, W.cell? ⟨g2, j, none⟩ = some (.int .i64 v)) ∧ (∀ j, W.frozen? ⟨g2, j, none⟩ = false)) := by
          intro W hw
          obtain ⟨g', g2', hg', _, _, hg2', hc', _, _, hn', hfz', _, _, _⟩ := hw.own.tabAt 0 (by have := HK.out.t1; omega) (by rw [HK.out.l16]; decide)
          obtain rfl : g = g' := (by have := HG.out.symm.trans hg'; simpa using this)
          obtain rfl : g2 = g2' := (by have := HG2.out.symm.trans hg2'; simpa using this)
          rw [HK.out.l16] at hc' hn'
          exact ⟨hc', fun j hj => ⟨_, hn' j hj⟩, hfz'⟩
        rw [h16] at hcl
        have hcl' : (16 : Int) ≤ ((y.t.getD 0 Tb.nil).c : Int) := by omega
        have ht1 : 0 < (y.t.length : Int) := by have := HK.out.t1; omega
        clear hc hn hfz hcl hg2
        generalize (y.t.getD 0 Tb.nil).c = C at *
        go_upto_region 12 with (fail)
        replace HD := Lib.hid (HD.out.below (Below.refl _ _).drew HRB.out)
        replace HW := Lib.hid HW.out.drew
        obtain ⟨x0, x1, x2, x3, x4⟩ := HW.out.box.cc
        rw [hg] at x1
        clear hg
        obtain ⟨c0, _, _⟩ := HC.out _ HW.out
        have HM1 : Hid True := trivial
        (first | go_region_with (first | (go_at_call 8; clear HM1; refine (HN.out _ _ (by omega) (by omega) HD.out.tp).mono ?_; rintro e wb ⟨r1, hq0, hq1, rfl, hk, tp⟩; replace HD := Lib.hid (HD.out.tick hk tp); replace HW := Lib.hid (HW.out.tock hk.tock HBB.out); clear hk tp x0 x1 x2 x3 x4 c0; obtain ⟨x0, x1, x2, x3, x4⟩ := HW.out.box.cc; rw [HG.out] at x1; obtain ⟨c0, _, _⟩ := HC.out _ HW.out; obtain ⟨i, rfl⟩ := Int.eq_ofNat_of_zero_le hq0; have HI : Hid (i < 16) := (by show i < 16; omega)) | (go_at_call 8; refine (HN.out _ _ (by omega) (by omega) HD.out.tp).mono ?_; rintro e wc ⟨r2, hs0, hs1, rfl, hk, tp⟩; replace HD := Lib.hid (HD.out.tick hk tp); replace HW := Lib.hid (HW.out.tock hk.tock HBB.out); clear hk tp x0 x1 x2 x3 x4 c0; obtain ⟨x0, x1, x2, x3, x4⟩ := HW.out.box.cc; rw [HG.out] at x1; obtain ⟨c0, c1, c2⟩ := HC.out _ HW.out; obtain ⟨c1v, c1w⟩ := c1 i HI.out; have c2v := c2 i; clear c1 c2; have HF : Hid (∀ z : Int, ∃ y', Df w0 w t a len cap (wc.setCell ⟨g2, i, none⟩ (.int .i64 z)) O y') := fun z => dw_num HD.out HW.out HRB.out HK.out HG2.out i z)) | fail)
        all_goals
          refine gen_st (D := fun W => ∃ y', Df w0 w t a len cap W O y') HF.out ?_
          rintro w8 ⟨y1, h8⟩
          clear HF HD HW x0 x1 x2 x3 x4 c0 c1w c2v HI HC HG HG2 HK
          have HF := Lib.hid h8
          clear h8
          obtain ⟨f1, f2⟩ := HP.out _ _ _ HF.out
          have HPo := Lib.hid f2
          have e0 := f1.cell 0 _ rfl
          have e1 := f1.cell 1 _ rfl
          obtain ⟨x0, x1, x2, x3, x4⟩ := HF.out.box.cc
          obtain ⟨r0, r1, r2, r3, r4⟩ := HF.out.dk.r.two
          clear f1 f2
          go_wp2_with fail
          generalize ((w8.setCell ⟨w.heap.size, 0, none⟩ (.slice y1.oa y1.o.length y1.oc)).setCell ⟨w.heap.size, 1, none⟩ (.slice y1.ta y1.t.length y1.tc)) = w9 at *
          exact bodyPost_ret (v := .agg #[.slice y1.oa y1.o.length y1.oc, .slice y1.ta y1.t.length y1.tc]) (by simp [results, Try.results7, go_sem, e0, e1]) rfl HPo.out
      · obtain ⟨g, g2, hg, hga, hgb, hg2, hc, hcl, hcc, hn, hfz, _, hlt, _⟩ := HW.out.own.tabAt 0 (by have := HK.out.t1; omega) (by rw [HK.out.l16]; decide)
        have h16 := HK.out.l16
        have ht1 : 0 < (y.t.length : Int) := by have := HK.out.t1; omega
        have HF : Hid (∃ y', Df w0 w t a len cap (World.drew _) O y') := (dw_cut HD.out HW.out HRB.out HK.out hg hg2).elim fun y' h => ⟨y', h.drew⟩
        rw [h16] at hc hcl
        have hcl' : (16 : Int) ≤ ((y.t.getD 0 Tb.nil).c : Int) := by omega
        have hfg : w6.frozen? ⟨g, 0, none⟩ = false := by
          have h1 := HW.out.own.t
          rw [hg] at h1
          exact own_free h1
        obtain ⟨x0, x1, x2, x3, x4⟩ := HW.out.box.cc
        rw [hg] at x1
        generalize (y.t.getD 0 Tb.nil).c = C at *
        clear hn hfz hg hg2 h16
        go_upto_region 14 with (fail)
        go_region
        obtain ⟨y1, h8⟩ := HF.out
        replace HF := Lib.hid h8
        generalize (World.setCell _ _ _).drew = w8 at *
        clear h8 HD HW x0 x1 x2 x3 x4 hc hfg HK
        obtain ⟨f1, f2⟩ := HP.out _ _ _ HF.out
        have HPo := Lib.hid f2
        have e0 := f1.cell 0 _ rfl
        have e1 := f1.cell 1 _ rfl
        obtain ⟨x0, x1, x2, x3, x4⟩ := HF.out.box.cc
        obtain ⟨r0, r1, r2, r3, r4⟩ := HF.out.dk.r.two
        clear f1 f2
        go_wp2_with fail
        generalize ((w8.setCell ⟨w.heap.size, 0, none⟩ (.slice y1.oa y1.o.length y1.oc)).setCell ⟨w.heap.size, 1, none⟩ (.slice y1.ta y1.t.length y1.tc)) = w9 at *
        exact bodyPost_ret (v := .agg #[.slice y1.oa y1.o.length y1.oc, .slice y1.ta y1.t.length y1.tc]) (by simp [results, Try.results7, go_sem, e0, e1]) rfl HPo.out
      · by_cases hl : y.o.length = 0
        · skip
          have hl' : ¬ (0 : Int) < (y.o.length : Int) := by omega
          have HF := Lib.hid (Df.ofWk HD.out HW.out HRB.out HK.out.sz HK.out.t1 HK.out.t8)
          clear hl
          obtain ⟨x0, x1, x2, x3, x4⟩ := HF.out.box.cc
          go_upto_region 20 with (fail)
          obtain ⟨f1, f2⟩ := HP.out _ _ _ HF.out
          have HPo := Lib.hid f2
          have e0 := f1.cell 0 _ rfl
          have e1 := f1.cell 1 _ rfl
          obtain ⟨x0, x1, x2, x3, x4⟩ := HF.out.box.cc
          obtain ⟨r0, r1, r2, r3, r4⟩ := HF.out.dk.r.two
          clear f1 f2
          go_wp2_with fail
          generalize ((w6.setCell ⟨w.heap.size, 0, none⟩ (.slice y.oa y.o.length y.oc)).setCell ⟨w.heap.size, 1, none⟩ (.slice y.ta y.t.length y.tc)) = w9 at *
          exact bodyPost_ret (v := .agg #[.slice y.oa y.o.length y.oc, .slice y.ta y.t.length y.tc]) (by simp [results, Try.results7, go_sem, e0, e1]) rfl HPo.out
        · have hl1 : 1 ≤ (y.o.length : Int) := by omega
          have hl2 : (y.o.length : Int) ≤ 128 := by have := HK.out.o; omega
          obtain ⟨g, hg, hga, hgb, _, _, _, _⟩ := HW.out.own.descAt 0 (by omega)
          have HG := Lib.hid hg
          obtain ⟨x0, x1, x2, x3, x4⟩ := HW.out.box.cc
          rw [hg] at x0
          go_upto_region 17 with (fail)
          replace HD := Lib.hid (HD.out.below (Below.refl _ _).drew HRB.out)
          replace HW := Lib.hid HW.out.drew
          clear x0 x1 x2 x3 x4
          obtain ⟨x0, x1, x2, x3, x4⟩ := HW.out.box.cc
          rw [hg] at x0
          clear hg
          have HM1 : Hid True := trivial
          (first | go_region_with (first | (go_at_call 8; clear HM1; refine (HN.out _ _ (by omega) (by omega) HD.out.tp).mono ?_; rintro e wb ⟨r1, hq0, hq1, rfl, hk, tp⟩; replace HD := Lib.hid (HD.out.tick hk tp); replace HW := Lib.hid (HW.out.tock hk.tock HBB.out); clear hk tp x0 x1 x2 x3 x4; obtain ⟨x0, x1, x2, x3, x4⟩ := HW.out.box.cc; rw [HG.out] at x0; obtain ⟨i, rfl⟩ := Int.eq_ofNat_of_zero_le hq0; have HI : Hid (i < y.o.length) := (by show i < y.o.length; omega); obtain ⟨g', hg', _, _, ⟨k0, k1, k2, k3, k4⟩, _, _, k6⟩ := HW.out.own.descAt i HI.out; obtain rfl : g = g' := (by have := HG.out.symm.trans hg'; simpa using this); clear hg'; have hrf := HK.out.rf i HI.out; obtain ⟨q, hq⟩ : ∃ q, q = y.o.getD i Dn.zero := ⟨_, rfl⟩; rw [← hq] at k0 k1 k2 k3 k4 hrf; have HQ := Lib.hid hq; clear hq) | (go_at_call 9; refine (HOdd.out _ HD.out.tp).mono ?_; rintro e wc ⟨r2, hs0, hs1, rfl, hk, tp⟩; replace HD := Lib.hid (HD.out.tock hk tp); replace HW := Lib.hid (HW.out.tock hk HBB.out); clear hk tp x0 x1 x2 x3 x4 k0 k1 k2 k3 k4; obtain ⟨x0, x1, x2, x3, x4⟩ := HW.out.box.cc; rw [HG.out] at x0; obtain ⟨g', hg', _, _, ⟨k0, k1, k2, k3, k4⟩, k5, _, k6⟩ := HW.out.own.descAt i HI.out; obtain rfl : g = g' := (by have := HG.out.symm.trans hg'; simpa using this); clear hg'; rw [← HQ.out] at k0 k1 k2 k3 k4; have HF : Hid (∀ z : Int, ∃ y', Df w0 w t a len cap (wc.setCell ⟨g, i * 5 + 2, none⟩ (.int .i64 z)) O y') := fun z => dw_desc HD.out HW.out HRB.out HK.out HG.out i HI.out 2 (by omega) z ⟨q.fi, q.fl, z, q.cu, q.rf⟩ (by rw [← HQ.out]; rfl); have k5v := k5 (i * 5 + 2); clear k5)) | fail)
          all_goals
            refine gen_st (D := fun W => ∃ y', Df w0 w t a len cap W O y') HF.out ?_
            rintro w8 ⟨y1, h8⟩
            clear HF HD HW x0 x1 x2 x3 x4 k0 k1 k2 k3 k4 k5v k6 HQ HI HG HK
            have HF := Lib.hid h8
            clear h8
            obtain ⟨f1, f2⟩ := HP.out _ _ _ HF.out
            have HPo := Lib.hid f2
            have e0 := f1.cell 0 _ rfl
            have e1 := f1.cell 1 _ rfl
            obtain ⟨x0, x1, x2, x3, x4⟩ := HF.out.box.cc
            obtain ⟨r0, r1, r2, r3, r4⟩ := HF.out.dk.r.two
            clear f1 f2
            go_wp2_with fail
            generalize ((w8.setCell ⟨w.heap.size, 0, none⟩ (.slice y1.oa y1.o.length y1.oc)).setCell ⟨w.heap.size, 1, none⟩ (.slice y1.ta y1.t.length y1.tc)) = w9 at *
            exact bodyPost_ret (v := .agg #[.slice y1.oa y1.o.length y1.oc, .slice y1.ta y1.t.length y1.tc]) (by simp [results, Try.results7, go_sem, e0, e1]) rfl HPo.out
      · obtain ⟨W4, hW4⟩ : ∃ W4, W4 = w6.alloc (Obj.cells #[.int .i64 0, .int .i64 0, .int .i64 0, .int .i64 0, .int .i64 0] 34) := ⟨_, rfl⟩
        have hb4 : Below w6.heap.size w6 W4 := by rw [hW4]; exact (Below.refl _ _).alloc (Nat.le_refl _) _
        have hv4 : W4.rangeAt w6.heap.size 0 Dn.zero.cells := by rw [hW4]; exact (At.new w6 Dn.zero.cells 34).r
        have hk4 := HW.out.below hb4
        have hd4 := HD.out.belowS hb4
        have hle4 : B ≤ W4.heap.size := by have := hk4.lo; have := hk4.box.at'.hi; omega
        obtain ⟨aN, cN, wN, hrun, hown, hbox, hbN⟩ := append_desc W4 B O y Dn.zero w6.heap.size hk4 hv4 (by have := HK.out.o; omega) hle4
        have HAP := Lib.hid hrun
        obtain ⟨wA, hwA⟩ : ∃ wA, wA = wN.setCell ⟨O, 0, none⟩ (.slice aN (y.o.length + 1) cN) := ⟨_, rfl⟩
        have hwkA : Wk B wA O ⟨aN, cN, y.o ++ [Dn.zero], y.ta, y.tc, y.t⟩ := by rw [hwA]; exact Wk.boxO hown hbox HW.out.lo (by simp)
        have hbelA : Below B W4 wA := by rw [hwA]; exact hbN.setCell (p := ⟨O, 0, none⟩) HW.out.lo _
        have HF : Hid (∃ y', Df w0 w t a len cap wA O y') := ⟨_, Df.ofWk (hd4.below hbelA HRB.out) hwkA HRB.out ⟨by simp; have := HK.out.o; omega, HK.out.sz.t, HK.out.sz.e⟩ HK.out.t1 HK.out.t8⟩
        obtain ⟨z0, z1, z2, z3, z4⟩ := hbox.cc
        obtain ⟨x0, x1, x2, x3, x4⟩ := HW.out.box.cc
        have hl2 : (y.o.length : Int) ≤ 128 := by have := HK.out.o; omega
        clear hrun hown hbox hbN hwkA hbelA hb4 hv4 hk4 hd4
        go_upto_region 20 with (at_builtin; rw [← hW4]; clear hW4; refine Lib.wpList_append_run _ rfl _ _ _ _ rfl _ _ rfl rfl _ _ HAP.out ?_)
        rw [← hwA]
        obtain ⟨y1, h8⟩ := HF.out
        replace HF := Lib.hid h8
        clear h8 hwA HAP HD HW x0 x1 x2 x3 x4 z0 z1 z2 z3 z4 HK
        obtain ⟨f1, f2⟩ := HP.out _ _ _ HF.out
        have HPo := Lib.hid f2
        have e0 := f1.cell 0 _ rfl
        have e1 := f1.cell 1 _ rfl
        obtain ⟨x0, x1, x2, x3, x4⟩ := HF.out.box.cc
        obtain ⟨r0, r1, r2, r3, r4⟩ := HF.out.dk.r.two
        clear f1 f2
        go_wp2_with fail
        generalize ((wA.setCell ⟨w.heap.size, 0, none⟩ (.slice y1.oa y1.o.length y1.oc)).setCell ⟨w.heap.size, 1, none⟩ (.slice y1.ta y1.t.length y1.tc)) = w9 at *
        exact bodyPost_ret (v := .agg #[.slice y1.oa y1.o.length y1.oc, .slice y1.ta y1.t.length y1.tc]) (by simp [results, Try.results7, go_sem, e0, e1]) rfl HPo.out
end Go.Proofs.Ytflcbefomjlgmaa
