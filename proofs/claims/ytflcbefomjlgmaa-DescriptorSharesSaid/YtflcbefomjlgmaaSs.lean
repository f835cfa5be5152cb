/- DescriptorShares: the state between two steps, and what the calls answer. -/
import Derived.Test.YtflcbefomjlgmaaPs
import Derived.Test.YtflcbefomjlgmaaVa
set_option linter.unusedSimpArgs false
set_option linter.unusedVariables false
namespace Go.Proofs.Ytflcbefomjlgmaa
open Go.ChangeShapes Go.WideShapes Go.ChangeAt Go.RowKit

/-! ### plain: what the calls answer, said of 'who' -/
theorem Sh.row {d : De} {who : List (List Int)} {off : List Int} {m : Int → Int} (h : Sh d who off m) (p : Nat) (hp : p < 3) : (tabAt d (p : Int)).length = 16 := by
  have := h.rt.rows p (by rw [h.len]; exact hp)
  unfold tabAt; rwa [Int.toNat_natCast]
theorem Sh.tab {d : De} {who : List (List Int)} {off : List Int} {m : Int → Int} (h : Sh d who off m) (p k : Nat) (hp : p < 3) (hk : k < 16) : (tabAt d (p : Int)).getD k 0 = 0 ↔ (who.getD p []).getD k 0 = 0 := by
  have := (h.zero p k hp hk).symm
  unfold tabAt; rwa [Int.toNat_natCast]
/-- the least free descriptor -/
def leastAt (who : List (List Int)) (p k : Nat) : Prop := k ≤ 16 ∧ (∀ j, j < k → (who.getD p []).getD j 0 ≠ 0) ∧ (k = 16 ∨ (who.getD p []).getD k 0 = 0)
theorem Sh.fst {d : De} {who : List (List Int)} {off : List Int} {m : Int → Int} (h : Sh d who off m) {p k : Nat} (hp : p < 3) (hk : leastAt who p k) : fst zeroB (tabAt d (p : Int)) = if k < 16 then (k : Int) else -1 := by
  obtain ⟨h1, h2, h3⟩ := hk
  have h16 := h.row p hp
  have hno : ∀ j, j < k → zeroB ((tabAt d (p : Int)).getD j 0) = false := fun j hj => by
    unfold zeroB
    exact decide_eq_false fun e => h2 j hj ((h.tab p j hp (by omega)).1 e)
  by_cases hlt : k < 16
  · rw [if_pos hlt]
    refine fst_hit (d := 0) (by omega) hno ?_
    unfold zeroB
    exact decide_eq_true ((h.tab p k hp hlt).2 (by rcases h3 with h3 | h3; omega; exact h3))
  · rw [if_neg hlt]
    refine fst_miss (d := 0) fun j hj => hno j (by omega)
theorem Sh.procV {d : De} {who : List (List Int)} {off : List Int} {m : Int → Int} (h : Sh d who off m) {p : Nat} (hp : p < 3) : procV d (p : Int) = 0 := procV_of (rt_check h.rt) (by omega) (by rw [h.len]; omega)
theorem sh_openE {d : De} {who : List (List Int)} {off : List Int} {m : Int → Int} (h : Sh d who off m) {p k : Nat} (hp : p < 3) (hk : leastAt who p k) {fi : Int} (h0 : 0 ≤ fi) (h1 : fi < 3) :
    (k < 16 → openE d (p : Int) fi 1 0 = 0 ∧ openF d (p : Int) fi 1 0 = (k : Int)) ∧ (¬ k < 16 → openE d (p : Int) fi 1 0 = 3) := by
  have e1 : (fixB fi 1 && curB 0) = true := by simp [fixB, curB]; omega
  have e2 : openE d (p : Int) fi 1 0 = if k < 16 then 0 else 3 := by
    unfold openE
    rw [h.procV hp, if_neg (by simp), e1, if_neg (by simp), h.fst hp hk]
    by_cases hlt : k < 16
    · rw [if_pos hlt, if_pos hlt, if_neg (by omega)]
    · rw [if_neg hlt, if_neg hlt, if_pos (by decide)]
  refine ⟨fun hlt => ?_, fun hlt => by rw [e2, if_neg hlt]⟩
  rw [if_pos hlt] at e2
  refine ⟨e2, ?_⟩
  unfold openF
  rw [if_pos e2, h.fst hp hk, if_pos hlt]
theorem sh_dupE {d : De} {who : List (List Int)} {off : List Int} {m : Int → Int} (h : Sh d who off m) {p k f : Nat} (hp : p < 3) (hf : f < 16) (hk : leastAt who p k) :
    ((who.getD p []).getD f 0 ≠ 0 → k < 16 → dupE d (p : Int) (f : Int) = 0 ∧ dupF d (p : Int) (f : Int) = (k : Int)) ∧ (¬ ((who.getD p []).getD f 0 ≠ 0 ∧ k < 16) → dupE d (p : Int) (f : Int) ≠ 0) := by
  have hn := (h.look p f hp hf).1
  have e2 : dupE d (p : Int) (f : Int) = 0 ↔ (who.getD p []).getD f 0 ≠ 0 ∧ k < 16 := by
    unfold dupE
    by_cases h0 : numE d (p : Int) (f : Int) = 0
    · rw [if_neg (by omega), h.fst hp hk]
      by_cases hlt : k < 16
      · rw [if_pos hlt, if_neg (by omega)]
        exact ⟨fun _ => ⟨hn.1 h0, hlt⟩, fun _ => rfl⟩
      · rw [if_neg hlt, if_pos (by decide)]
        exact ⟨fun e => (by cases e), fun e => absurd e.2 hlt⟩
    · rw [if_pos h0]
      exact ⟨fun e => absurd e h0, fun e => absurd (hn.2 e.1) h0⟩
  refine ⟨fun a b => ?_, fun a b => a (e2.1 b)⟩
  have e3 := e2.2 ⟨a, b⟩
  refine ⟨e3, ?_⟩
  unfold dupF
  rw [if_pos e3, h.fst hp hk, if_pos b]
theorem sh_forkE {d : De} {who : List (List Int)} {off : List Int} {m : Int → Int} (h : Sh d who off m) {p q : Nat} (hp : p < 3) (hq : q < 3) :
    forkE d (p : Int) (q : Int) = 0 ↔ p ≠ q ∧ ∀ k, k < 16 → (who.getD q []).getD k 0 = 0 := by
  have h16 := h.row q hq
  unfold forkE
  rw [h.procV hp, if_neg (by simp), h.procV hq, if_neg (by simp)]
  by_cases e : (p : Int) = (q : Int)
  · rw [if_pos e]
    exact ⟨fun a => (by cases a), fun a => absurd (by omega) a.1⟩
  · rw [if_neg e]
    cases ha : anyB (tabAt d (q : Int))
    · rw [if_neg (by simp)]
      refine ⟨fun _ => ⟨by omega, fun k hk => (h.tab q k hq hk).1 (anyB_false ha k (by omega))⟩, fun _ => rfl⟩
    · rw [if_pos rfl]
      refine ⟨fun a => (by cases a), fun a => ?_⟩
      rw [anyB_none (fun j hj => (h.tab q j hq (by omega)).2 (a.2 j (by omega)))] at ha
      cases ha
theorem sh_updE {d : De} {who : List (List Int)} {off : List Int} {m : Int → Int} (h : Sh d who off m) {p k : Nat} {v : Int} (hn : numE d (p : Int) (k : Int) = 0) (h0 : 0 ≤ v) (h1 : v < 50) : updE d (numV d (p : Int) (k : Int)) v (lookV d (p : Int) (k : Int)).cu = 0 := by
  obtain ⟨k', j, q, e1, e2, hk, hj, hq, hv, hent, hpos⟩ := num_ref hn
  have hrf := h.rt.rf q hq
  have hr := h.rt.pos q hq hpos
  have hc : curB (lookV d (p : Int) (k : Int)).cu = true := by
    unfold lookV
    rw [if_pos hn, hv, Int.toNat_natCast]
    unfold rightD movB at hr
    rw [Bool.and_eq_true, Bool.and_eq_true] at hr
    exact hr.2.2
  rw [hv]
  unfold updE
  rw [rt_check h.rt, if_neg (by simp), if_neg, if_neg]
  · unfold movB
    rw [hc]
    simp
    omega
  · rw [Int.toNat_natCast]
    rintro (h2 | h2 | h2)
    · omega
    · omega
    · omega
/-! ### the table 'who' as a row of numbers -/
theorem flat_at : ∀ (t : List (List Int)) (p k : Nat), (∀ l ∈ t, l.length = 16) → k < 16 → t.flatten.getD (p * 16 + k) 0 = (t.getD p []).getD k 0
  | [], p, k, _, _ => by simp [List.getD]
  | a :: r, 0, k, h, hk => by
    have ha := h a (by simp)
    simp only [List.flatten_cons, Nat.zero_mul, Nat.zero_add, List.getD_cons_zero]
    simp only [List.getD]
    rw [List.getElem?_append_left (by omega)]
  | a :: r, p + 1, k, h, hk => by
    have ha := h a (by simp)
    have ih := flat_at r p k (fun l hl => h l (by simp [hl])) hk
    simp only [List.flatten_cons, List.getD_cons_succ]
    rw [← ih]
    simp only [List.getD]
    rw [List.getElem?_append_right (by omega)]
    congr 2
    omega
theorem flat_setL : ∀ (t : List (List Int)) (p : Nat) (l : List Int), (∀ l ∈ t, l.length = 16) → l.length = 16 → p < t.length → (t.set p l).flatten = t.flatten.take (p * 16) ++ l ++ t.flatten.drop (p * 16 + 16)
  | [], p, l, _, _, hp => by simp at hp
  | a :: r, 0, l, h, hl, _ => by
    have ha := h a (by simp)
    simp only [List.set_cons_zero, List.flatten_cons, Nat.zero_mul, Nat.zero_add, List.take_zero, List.nil_append]
    rw [show 16 = a.length + 0 by omega, List.drop_append]
    simp
  | a :: r, p + 1, l, h, hl, hp => by
    have ha := h a (by simp)
    have ih := flat_setL r p l (fun l hl => h l (by simp [hl])) hl (by simpa using hp)
    simp only [List.set_cons_succ, List.flatten_cons]
    rw [ih, show (p + 1) * 16 = a.length + p * 16 by omega, List.take_length_add_append, show a.length + p * 16 + 16 = a.length + (p * 16 + 16) by omega, List.drop_length_add_append]
    simp [List.append_assoc]
theorem flat_len16 (t : List (List Int)) (h : ∀ l ∈ t, l.length = 16) : t.flatten.length = t.length * 16 := by
  induction t with
  | nil => rfl
  | cons a r ih =>
    have ha := h a (by simp)
    simp only [List.flatten_cons, List.length_append, List.length_cons]
    rw [ih fun l hl => h l (by simp [hl])]
    omega
/-- w is among the first n numbers -/
def hasB (l : List Int) (w : Int) (n : Nat) : Bool := (l.take n).any (fun z => z == w)
theorem hasB_zero (l : List Int) (w : Int) : hasB l w 0 = false := by simp [hasB]
theorem hasB_succ (l : List Int) (w : Int) (n : Nat) (hn : n < l.length) : hasB l w (n + 1) = (hasB l w n || (l.getD n 0 == w)) := by
  unfold hasB
  rw [List.take_add_one, List.any_append, List.getElem?_eq_getElem hn, getD_get hn]
  simp
theorem hasB_true (l : List Int) (w : Int) (n : Nat) : hasB l w n = true ↔ ∃ i, i < n ∧ i < l.length ∧ l.getD i 0 = w := by
  unfold hasB
  rw [List.any_eq_true]
  constructor
  · rintro ⟨z, hz, he⟩
    obtain ⟨i, hi, rfl⟩ := List.getElem_of_mem hz
    have hi' : i < n ∧ i < l.length := by rw [List.length_take] at hi; omega
    refine ⟨i, hi'.1, hi'.2, ?_⟩
    rw [getD_get hi'.2]
    rw [List.getElem_take] at he
    exact eq_of_beq he
  · rintro ⟨i, h1, h2, h3⟩
    refine ⟨l.getD i 0, ?_, by rw [h3]; simp⟩
    have : i < (l.take n).length := by rw [List.length_take]; omega
    have h4 := List.getElem_mem this
    rw [List.getElem_take] at h4
    rw [getD_get h2]
    exact h4
theorem setE_all {t : List (List Int)} {p f : Nat} {z : Int} (h : ∀ l ∈ t, l.length = 16) : ∀ l ∈ setE t p f z, l.length = 16 := by
  intro l hl
  unfold setE at hl
  by_cases hp : p < t.length
  · rcases mem_set hl with hl | rfl
    · exact h l hl
    · rw [List.length_set, getD_get hp]; exact h _ (List.getElem_mem hp)
  · rw [List.set_eq_of_length_le (by omega)] at hl
    exact h l hl
theorem flat_setE {t : List (List Int)} {p f : Nat} {z : Int} (h : ∀ l ∈ t, l.length = 16) (hp : p < t.length) (hf : f < 16) : (setE t p f z).flatten = t.flatten.set (p * 16 + f) z := by
  have hall := setE_all (p := p) (f := f) (z := z) h
  have hl : (setE t p f z).flatten.length = t.flatten.length := by rw [flat_len16 _ hall, flat_len16 _ h, setE_len]
  have hlt := flat_len16 _ h
  refine List.ext_getElem (by rw [List.length_set, hl]) fun n h1 h2 => ?_
  have hn : n = (n / 16) * 16 + n % 16 := by omega
  have hm : n % 16 < 16 := Nat.mod_lt _ (by decide)
  have e1 := flat_at (setE t p f z) (n / 16) (n % 16) hall hm
  have e2 := flat_at t (n / 16) (n % 16) h hm
  rw [← hn] at e1 e2
  rw [← getD_get (d := 0) h1, e1, List.getElem_set]
  by_cases e : p * 16 + f = n
  · have ep : n / 16 = p := by omega
    have ef : n % 16 = f := by omega
    rw [if_pos e, ep, ef]
    refine setE_at _ _ _ _ hp ?_
    rw [getD_get hp, h _ (List.getElem_mem hp)]
    exact hf
  · rw [if_neg e, ← getD_get (d := 0) (by rw [List.length_set] at h2; exact h2), e2]
    unfold setE
    by_cases ep : p = n / 16
    · have ef : f ≠ n % 16 := by omega
      rw [← ep, getD_set_self hp, getD_set_ne ef]
    · rw [getD_set_ne ep]
/-- Close: what is left -/
theorem sh_left {d : De} {who : List (List Int)} {off : List Int} {m : Int → Int} (h : Sh d who off m) (hw : ∀ l ∈ who, l.length = 16) {p f : Nat} (hp : p < 3) (hf : f < 16) (ho : numE d (p : Int) (f : Int) = 0) :
    closeG d (p : Int) (f : Int) = !(hasB (setE who p f 0).flatten ((who.getD p []).getD f 0) 48) := by
  have h1 := (sh_close h ho).2
  have hwl : who.length = 3 := by rw [h.wm, List.length_map, h.len]
  have hall := setE_all (p := p) (f := f) (z := 0) hw
  have hlen : (setE who p f 0).flatten.length = 48 := by rw [flat_len16 _ hall, setE_len, hwl]
  cases hb : hasB (setE who p f 0).flatten ((who.getD p []).getD f 0) 48
  · rw [Bool.not_false]
    refine h1.2 fun a b ha hb2 e => ?_
    have : hasB (setE who p f 0).flatten ((who.getD p []).getD f 0) 48 = true := (hasB_true _ _ _).2 ⟨a * 16 + b, by omega, by omega, by rw [flat_at _ _ _ hall hb2]; exact e⟩
    rw [hb] at this; cases this
  · rw [Bool.not_true]
    obtain ⟨i, hi, _, he⟩ := (hasB_true _ _ _).1 hb
    cases hg : closeG d (p : Int) (f : Int)
    · rfl
    · exfalso
      have hm : i % 16 < 16 := Nat.mod_lt _ (by decide)
      refine h1.1 hg (i / 16) (i % 16) (by omega) hm ?_
      rw [← flat_at _ _ _ hall hm, show i / 16 * 16 + i % 16 = i by omega]
      exact he

/-! ### in memory -/
theorem At_setL : ∀ (vs : List Value) (o : Nat) {w : World} {b : Nat} {cs : List Value}, At w b cs → At (w.setCells b o vs) b (setL cs o vs)
  | [], _, _, _, _, h => h
  | v :: vs, o, _, _, _, h => At_setL vs (o + 1) (h.set o v)
theorem own_tock' {W W' : World} {t B n size : Nat} {e : TypeId} {v : Value} {xs : List Value} (h : W.ownsRow B e size v n xs) (hk : Tock t W W') (hB : t < B) : W'.ownsRow B e size v n xs := by
  refine ⟨h.1, ?_⟩
  rcases h.2 with hn | ⟨g, cap, cur, rfl, hg, hgg, rest⟩
  · exact Or.inl hn
  · exact Or.inr ⟨g, cap, cur, rfl, hg, by rw [hk.block g (by omega) (Array.getElem?_eq_some_iff.1 hgg).1]; exact hgg, rest⟩
/-- the tape t, variable D with x, the table Q, the offsets -/
structure Ss (w : World) (t D Q : Nat) (a : Option Addr) (len cap : Nat) (W : World) (x : Dv) (who : List (List Int)) (oa : Option Addr) (oc : Nat) (off : List Int) : Prop where
  tp : TP w t a len cap W
  box : Bx W D x
  vi : Vi W [t, D, Q] x
  wh : At W Q (ints who.flatten)
  own : W.ownsRow (Q + 1) 3 1 (.slice oa off.length oc) off.length (ints off)
  ap : ∀ b, DBlk x b → ∀ q, oa = some q → b ≠ q.block
  tD : t < D
  DQ : D < Q
  wl : who.length = 3
  w16 : ∀ l ∈ who, l.length = 16
/-- variable N has z -/
structure Sz (t D Q N : Nat) (oa : Option Addr) (W : World) (x z : Dv) : Prop where
  box : Bx W N z
  vi : Vi W [t, D, Q, N] z
  ap : ∀ b, DBlk z b → ∀ q, oa = some q → b ≠ q.block
  na : ∀ q, oa = some q → q.block ≠ N
  xa : ∀ b, DBlk x b → b ≠ N
  lo : Q < N
section
variable {w W W' W2 : World} {t D Q N : Nat} {a : Option Addr} {len cap : Nat} {x y z : Dv} {who : List (List Int)} {oa : Option Addr} {oc : Nat} {off : List Int}
theorem Ss.below (h : Ss w t D Q a len cap W x who oa oc off) (hb : Below W.heap.size W W') : Ss w t D Q a len cap W' x who oa oc off :=
  ⟨h.tp.below hb h.tp.hi, h.box.below hb h.box.at'.hi, h.vi.below hb, h.wh.below hb h.wh.hi, ownsRow_below h.own hb, h.ap, h.tD, h.DQ, h.wl, h.w16⟩
theorem Ss.tick (h : Ss w t D Q a len cap W x who oa oc off) (hk : Tick t W W') (hp : TP w t a len cap W') : Ss w t D Q a len cap W' x who oa oc off :=
  ⟨hp, h.box.tick hk (by have := h.tD; omega), h.vi.tick hk (by simp), h.wh.tick hk (by have := h.tD; have := h.DQ; omega), own_tock' h.own hk.tock (by have := h.tD; have := h.DQ; omega), h.ap, h.tD, h.DQ, h.wl, h.w16⟩
theorem Ss.alloc (h : Ss w t D Q a len cap W x who oa oc off) (o : Obj) : Ss w t D Q a len cap (W.alloc o) x who oa oc off := h.below ((Below.refl _ _).alloc (Nat.le_refl _) o)
theorem Ss.obl (h : Ss w t D Q a len cap W x who oa oc off) : ∀ q, oa = some q → Q < q.block ∧ q.block < W.heap.size := fun q hq => by
  have := h.own.lt q.block (by rw [hq]; rfl)
  omega
theorem Sz.below (h : Sz t D Q N oa W x z) (hb : Below W.heap.size W W') : Sz t D Q N oa W' x z := ⟨h.box.below hb h.box.at'.hi, h.vi.below hb, h.ap, h.na, h.xa, h.lo⟩
theorem Sz.tick (h : Sz t D Q N oa W x z) (hs : t < N) (hk : Tick t W W') : Sz t D Q N oa W' x z := ⟨h.box.tick hk (by omega), h.vi.tick hk (by simp), h.ap, h.na, h.xa, h.lo⟩
theorem Ss.ans (h : Ss w t D Q a len cap W x who oa oc off) (ha : DAns W x W2 z) : Vi W2 [t, D, Q] z ∧ ∀ b, DBlk z b → ∀ q, oa = some q → b ≠ q.block := by
  refine ⟨ha.vi h.vi fun b hb => ?_, fun b hb q hq => ?_⟩
  · have h1 := h.wh.hi; have h2 := h.tD; have h3 := h.DQ
    simp only [List.mem_cons, List.not_mem_nil, or_false] at hb
    omega
  · rcases ha.blk b hb with h1 | h1
    · exact h.ap b h1 q hq
    · have := (h.obl q hq).2; omega
theorem Sz.new (h : Ss w t D Q a len cap W x who oa oc off) (hz : Vi W [t, D, Q] z) (hp : ∀ b, DBlk z b → ∀ q, oa = some q → b ≠ q.block) : Sz t D Q W.heap.size oa (W.alloc (.cells #[.slice z.oa z.o.length z.oc, .slice z.ta z.t.length z.tc] 29)) x z := by
  have hb : Below W.heap.size W (W.alloc (.cells #[.slice z.oa z.o.length z.oc, .slice z.ta z.t.length z.tc] 29)) := (Below.refl _ _).alloc (Nat.le_refl _) _
  refine ⟨Bx.new W z, ⟨hz.di.below hb, fun b hb2 hm => ?_⟩, hp, fun q hq => ?_, fun b hb2 => ?_, h.wh.hi⟩
  · have h1 := hz.di.blk hb2
    have h2 := hz.out b hb2
    simp only [List.mem_cons, List.not_mem_nil, or_false] at hm h2
    omega
  · have := (h.obl q hq).2; omega
  · have := h.vi.di.blk hb2; omega
theorem Sz.newN (h : Ss w t D Q a len cap W x who oa oc off) : Sz t D Q W.heap.size oa (W.alloc (.cells #[.slice none 0 0, .slice none 0 0] 29)) x Dv.nil :=
  Sz.new h ⟨DIn.nil _, fun b hb => by
    rcases hb with ⟨q, h1, _⟩ | ⟨q, h1, _⟩ | ⟨z, hz, _⟩
    · cases h1
    · cases h1
    · cases hz⟩ (fun b hb => by
    rcases hb with ⟨q, h1, _⟩ | ⟨q, h1, _⟩ | ⟨z, hz, _⟩
    · cases h1
    · cases h1
    · cases hz)
/-- an answer is stored into N -/
theorem Sz.put (h : Sz t D Q N oa W x y) (hs : Ss w t D Q a len cap W x who oa oc off) (hb : Below W.heap.size W W2) (ha : DAns W x W2 z) :
    Sz t D Q N oa ((W2.setCell ⟨N, 0, none⟩ (.slice z.oa z.o.length z.oc)).setCell ⟨N, 1, none⟩ (.slice z.ta z.t.length z.tc)) x z ∧ Ss w t D Q a len cap ((W2.setCell ⟨N, 0, none⟩ (.slice z.oa z.o.length z.oc)).setCell ⟨N, 1, none⟩ (.slice z.ta z.t.length z.tc)) x who oa oc off := by
  have h2 := h.below hb
  have s2 := hs.below hb
  have hlo := h.lo
  have h3 := hs.tD
  have h4 := hs.DQ
  have h5 := hs.tp.lo
  have hans := hs.ans ha
  have hv : Vi W2 [t, D, Q, N] z := ⟨ha.di, fun b hb2 hm => by
    have h6 := hans.1.out b hb2
    simp only [List.mem_cons, List.not_mem_nil, or_false] at hm h6
    rcases ha.blk b hb2 with h7 | h7
    · have := h.xa b h7; omega
    · have := h.box.at'.hi; omega⟩
  refine ⟨⟨h2.box.put z, (hv.set (by simp) _ _).set (by simp) _ _, hans.2, h.na, h.xa, h.lo⟩, ⟨(s2.tp.set (by omega) (by omega) _ _).set (by omega) (by omega) _ _, (s2.box.other (p := ⟨N, 0, none⟩) (by show D ≠ N; omega) _).other (p := ⟨N, 1, none⟩) (by show D ≠ N; omega) _, ⟨?_, s2.vi.out⟩, (s2.wh.setOther (x := ⟨N, 0, none⟩) (by show Q ≠ N; omega) _).setOther (x := ⟨N, 1, none⟩) (by show Q ≠ N; omega) _, ?_, s2.ap, h3, h4, s2.wl, s2.w16⟩⟩
  · exact (s2.vi.di.keepB (by simp [World.setCell]) fun b hb2 => Below.heap_setCell W2 ⟨N, 0, none⟩ _ b (h.xa b hb2)).keepB (by simp [World.setCell]) fun b hb2 => Below.heap_setCell _ ⟨N, 1, none⟩ _ b (h.xa b hb2)
  · have hne : ∀ q, (Value.slice oa off.length oc).ownBlock = some q → q ≠ N := fun q hq => by
      cases ho : oa with
      | none => rw [ho] at hq; cases hq
      | some p => rw [ho] at hq; have : p.block = q := by simpa [Value.ownBlock] using hq
                  rw [← this]; exact h.na p ho
    exact own_apart (own_apart s2.own _ _ hne) _ _ hne
/-- what N has is stored into D -/
theorem Ss.store (h : Ss w t D Q a len cap W x who oa oc off) (hz : Sz t D Q N oa W x z) : Ss w t D Q a len cap ((W.setCell ⟨D, 0, none⟩ (.slice z.oa z.o.length z.oc)).setCell ⟨D, 1, none⟩ (.slice z.ta z.t.length z.tc)) z who oa oc off := by
  have h3 := h.tD
  have h4 := h.DQ
  have h5 := h.tp.lo
  have hne : ∀ q, (Value.slice oa off.length oc).ownBlock = some q → q ≠ D := fun q hq => by
    have := (h.own.lt q hq).1; omega
  refine ⟨(h.tp.set (by omega) (by omega) _ _).set (by omega) (by omega) _ _, h.box.put z, ?_, (h.wh.setOther (x := ⟨D, 0, none⟩) (by show Q ≠ D; omega) _).setOther (x := ⟨D, 1, none⟩) (by show Q ≠ D; omega) _, own_apart (own_apart h.own _ _ hne) _ _ hne, hz.ap, h3, h4, h.wl, h.w16⟩
  have hv : Vi W [t, D, Q] z := ⟨hz.vi.di, fun b hb hm => hz.vi.out b hb (by
    simp only [List.mem_cons, List.not_mem_nil, or_false] at hm ⊢
    omega)⟩
  exact (hv.set (by simp) _ _).set (by simp) _ _
theorem Ss.wl48 (h : Ss w t D Q a len cap W x who oa oc off) : who.flatten.length = 48 := by rw [flat_len16 _ h.w16, h.wl]
theorem Ss.cell (h : Ss w t D Q a len cap W x who oa oc off) (p k : Nat) (hp : p < 3) (hk : k < 16) : W.cell? ⟨Q, p * 16 + k, none⟩ = some (.int .i64 ((who.getD p []).getD k 0)) ∧ W.frozen? ⟨Q, p * 16 + k, none⟩ = false := by
  have h48 := h.wl48
  refine ⟨?_, h.wh.free _ (by rw [ints_len]; omega)⟩
  rw [← flat_at _ _ _ h.w16 hk]
  exact h.wh.cell _ _ (ints_at _ _ (by omega))
/-- an entry of the table is stored -/
theorem Ss.put1 (h : Ss w t D Q a len cap W x who oa oc off) (p k : Nat) (hp : p < 3) (hk : k < 16) (v : Int) : Ss w t D Q a len cap (W.setCell ⟨Q, p * 16 + k, none⟩ (.int .i64 v)) x (setE who p k v) oa oc off := by
  have h3 := h.tD
  have h4 := h.DQ
  have h5 := h.tp.lo
  have hne : ∀ q, (Value.slice oa off.length oc).ownBlock = some q → q ≠ Q := fun q hq => by
    have := (h.own.lt q hq).1; omega
  refine ⟨h.tp.set (by omega) (by omega) _ _, h.box.other (p := ⟨Q, p * 16 + k, none⟩) (by show D ≠ Q; omega) _, h.vi.set (by simp) _ _, ?_, own_apart h.own _ _ hne, h.ap, h3, h4, by rw [setE_len]; exact h.wl, setE_all h.w16⟩
  rw [flat_setE h.w16 (by rw [h.wl]; exact hp) hk, ← ints_set]
  exact h.wh.set _ _
/-- a row of the table is stored -/
theorem Ss.put16 (h : Ss w t D Q a len cap W x who oa oc off) (p q : Nat) (hp : p < 3) (hq : q < 3) : Ss w t D Q a len cap (W.setCells Q (q * 16) (ints (who.getD p []))) x (who.set q (who.getD p [])) oa oc off := by
  have h3 := h.tD
  have h4 := h.DQ
  have h5 := h.tp.lo
  have h48 := h.wl48
  have hl16 : (who.getD p []).length = 16 := h.w16 _ (by rw [getD_get (by rw [h.wl]; exact hp)]; exact List.getElem_mem _)
  have hb : Below Q W (W.setCells Q (q * 16) (ints (who.getD p []))) := below_cells (Nat.le_refl _) _ _ (Below.refl Q W)
  have hne : ∀ g, (Value.slice oa off.length oc).ownBlock = some g → g ≠ Q := fun g hg => by
    have := (h.own.lt g hg).1; omega
  have hk : ∀ (vs : List Value) (o : Nat) (W : World), Vi W [t, D, Q] x → Vi (W.setCells Q o vs) [t, D, Q] x := by
    intro vs
    induction vs with
    | nil => intro o W hv; exact hv
    | cons v r ih => intro o W hv; exact ih _ _ (hv.set (by simp) _ _)
  refine ⟨h.tp.below hb (by omega), h.box.below hb h.DQ, hk _ _ _ h.vi, ?_, own_apartS hne _ _ h.own, h.ap, h3, h4, by rw [List.length_set]; exact h.wl, fun l hl => ?_⟩
  · have hS : ints (who.set q (who.getD p [])).flatten = setL (ints who.flatten) (q * 16) (ints (who.getD p [])) := by
      rw [flat_setL _ _ _ h.w16 hl16 (by rw [h.wl]; exact hq)]
      have e1 : ints who.flatten = ints (who.flatten.take (q * 16)) ++ ints ((who.flatten.drop (q * 16)).take 16) ++ ints (who.flatten.drop (q * 16 + 16)) := by
        simp only [ints, ← List.map_append]
        congr 1
        rw [← List.drop_drop, List.append_assoc, List.take_append_drop, List.take_append_drop]
      rw [e1]
      have e2 : (ints (who.flatten.take (q * 16))).length = q * 16 := by rw [ints_len, List.length_take]; omega
      have := setL_mid (ints (who.flatten.take (q * 16))) (ints (who.flatten.drop (q * 16 + 16))) (ints (who.getD p [])) (ints ((who.flatten.drop (q * 16)).take 16)) (by rw [ints_len, ints_len, hl16, List.length_take, List.length_drop, h48]; omega)
      rw [e2] at this
      rw [this]
      simp [ints, List.map_append]
    rw [hS]
    have := At_setL (ints (who.getD p [])) (q * 16) h.wh
    exact this
  · rcases mem_set hl with hl | rfl
    · exact h.w16 l hl
    · exact hl16
/-- the offsets -/
theorem Ss.offs (h : Ss w t D Q a len cap W x who oa oc off) (i : Nat) (hi : i < off.length) : ∃ g, oa = some ⟨g, 0, none⟩ ∧ (off.length : Int) ≤ oc ∧ (oc : Int) ≤ 9223372036854775807 ∧ W.cell? ⟨g, i, none⟩ = some (.int .i64 (off.getD i 0)) ∧ W.frozen? ⟨g, i, none⟩ = false ∧ Q < g ∧ g < W.heap.size := by
  have ho := h.own
  rcases ho.2 with ⟨hv, hn⟩ | ⟨g, c, cur, hv, _⟩
  · omega
  · cases hv
    have h1 := own_lt ho
    refine ⟨g, rfl, h1.2.2.1, h1.2.2.2, ?_, own_free ho, by omega, h1.2.1⟩
    rw [ho.cellAt i (by omega)]
    exact ints_at _ _ hi
theorem Ss.putOff {g : Nat} (h : Ss w t D Q a len cap W x who (some ⟨g, 0, none⟩) oc off) (i : Nat) (v : Int) : Ss w t D Q a len cap (W.setCell ⟨g, i, none⟩ (.int .i64 v)) x who (some ⟨g, 0, none⟩) oc (off.set i v) := by
  have h3 := h.tD
  have h4 := h.DQ
  have h5 := h.tp.lo
  have h6 := (h.obl _ rfl).1
  simp only at h6
  refine ⟨h.tp.set (by omega) (by omega) _ _, h.box.other (p := ⟨g, i, none⟩) (by show D ≠ g; omega) _, ⟨?_, h.vi.out⟩, h.wh.setOther (x := ⟨g, i, none⟩) (by show Q ≠ g; omega) _, ?_, h.ap, h3, h4, h.wl, h.w16⟩
  · exact h.vi.di.keepB (by simp [World.setCell]) fun b hb2 => Below.heap_setCell W ⟨g, i, none⟩ _ b (h.ap b hb2 ⟨g, 0, none⟩ rfl)
  · have := (h.own.stored i (.int .i64 v)).1
    rw [ints_set] at this
    rw [List.length_set]
    exact this
end
/-- a number more, and where the row lies then -/
theorem append_int (W : World) (B : Nat) (a : Option Addr) (c : Nat) (l : List Int) (z : Int) (vb : Nat) (h : W.ownsRow B 3 1 (.slice a l.length c) l.length (ints l)) (hv : W.cell? ⟨vb, 0, none⟩ = some (.int .i64 z)) (hl : l.length ≤ 1000) (hB : B ≤ W.heap.size) :
    ∃ a' c' W', (Builtin.append_ #[22, 22] 22 #[.slice a l.length c, .slice (some ⟨vb, 0, none⟩) 1 1]).run Try.prog W = .ok (.slice a' (l.length + 1) c') W' ∧ W'.ownsRow B 3 1 (.slice a' (l.length + 1) c') (l.length + 1) (ints (l ++ [z])) ∧ W.grownBy W' (Value.ownBlock (.slice a l.length c)) ∧
      (∀ q, a' = some q → (∃ p, a = some p ∧ p.block = q.block) ∨ W.heap.size ≤ q.block) := by
  obtain ⟨i0, hi, hz0, hz1, hz2⟩ := info_parts int_info
  have hc : ∀ j u, [Value.int .i64 z][j]? = some u → W.cell? ((⟨vb, 0, none⟩ : Addr).add j) = some u := fun j u hj => by
    cases j with
    | zero => simp at hj; subst hj; exact hv
    | succ j => simp at hj
  have h1 : ∀ u ∈ [Value.int .i64 z], u.oneCell' = true := by intro u hu; simp at hu; subst hu; rfl
  obtain ⟨v', W', hr, how, hg, _⟩ := run_append_own (P := Try.prog) W B 22 22 3 i0 _ 1 8 Try.underlying22 hi hz0 hz1 hz2 rfl (by decide) _ _ _ h ⟨vb, 0, none⟩ 1 1 [.int .i64 z] rfl hc h1 (by unfold maxLen; omega) (by omega) hB
  obtain ⟨a', c', rfl⟩ := own_slice how
  refine ⟨a', c', W', hr, by rw [show ints (l ++ [z]) = ints l ++ [.int .i64 z] from by simp [ints]]; exact how, hg, fun q hq => ?_⟩
  rcases h.2 with ⟨hn, hn2⟩ | ⟨g, cap, cur, hv2, hbg, hgg, hnc, hcm, hcs, htake⟩
  · right
    have hl0 : ints l = [] := List.eq_nil_of_length_eq_zero (by rw [h.1, hn2])
    have h' : W.ownsRow W.heap.size 3 1 (.slice a l.length c) l.length (ints l) := ⟨h.1, Or.inl ⟨hn, hn2⟩⟩
    obtain ⟨v2, W2, hr2, how2, _, _⟩ := run_append_own (P := Try.prog) W W.heap.size 22 22 3 i0 _ 1 8 Try.underlying22 hi hz0 hz1 hz2 rfl (by decide) _ _ _ h' ⟨vb, 0, none⟩ 1 1 [.int .i64 z] rfl hc h1 (by unfold maxLen; omega) (by omega) (Nat.le_refl _)
    rw [hr] at hr2
    cases hr2
    exact (how2.lt q.block (by rw [hq]; rfl)).1
  · cases hv2
    by_cases hroom : l.length + 1 ≤ c
    · left
      have hfit : l.length * i0.size + [Value.int .i64 z].length ≤ cur.size := by rw [hz1, hcs]; simp; omega
      have hr2 := run_append_room (P := Try.prog) W 22 22 3 i0 Try.underlying22 hi g l.length c cur hgg ⟨vb, 0, none⟩ 1 1 [.int .i64 z] (by rw [hz1]; rfl) hc h1 hroom hfit
      rw [hr] at hr2
      cases hr2
      cases hq
      exact ⟨_, rfl, rfl⟩
    · right
      have holds : ∀ j u, (ints l)[j]? = some u → W.cell? ((⟨g, 0, none⟩ : Addr).add j) = some u := h.cells (g := g) rfl
      have hr2 := run_append_grow (P := Try.prog) W 22 22 3 i0 _ Try.underlying22 hi hz0 ⟨g, 0, none⟩ l.length c (ints l) (by rw [hz1, ints_len]; omega) holds ⟨vb, 0, none⟩ 1 1 [.int .i64 z] (by rw [hz1]; rfl) hc (by omega) (by omega) (by rw [hz2]; exact growslice_fits (by omega) (by omega))
      rw [hr] at hr2
      cases hr2
      cases hq
      exact Nat.le_refl _
theorem Ss.app {w W W' : World} {t D Q : Nat} {a : Option Addr} {len cap : Nat} {x : Dv} {who : List (List Int)} {oa oa' : Option Addr} {oc oc' : Nat} {off : List Int} {z : Int} (h : Ss w t D Q a len cap W x who oa oc off)
    (how : W'.ownsRow (Q + 1) 3 1 (.slice oa' (off.length + 1) oc') (off.length + 1) (ints (off ++ [z]))) (hg : W.grownBy W' (Value.ownBlock (.slice oa off.length oc))) (hl : ∀ q, oa' = some q → (∃ p, oa = some p ∧ p.block = q.block) ∨ W.heap.size ≤ q.block) : Ss w t D Q a len cap W' x who oa' oc' (off ++ [z]) := by
  have h3 := h.tD
  have h4 := h.DQ
  have h7 := h.wh.hi
  have hb : Below (Q + 1) W W' := (Below.refl (Q + 1) W).grown hg (by omega) (fun k hk => (h.own.lt k hk).1)
  refine ⟨h.tp.below hb (by omega), h.box.below hb (by omega), ⟨h.vi.di.keepB hg.size fun b hb2 => hg.block b (h.vi.di.blk hb2) fun e => ?_, h.vi.out⟩, h.wh.below hb (by omega), by rw [List.length_append]; exact how, fun b hb2 q hq => ?_, h3, h4, h.wl, h.w16⟩
  · cases ho : oa with
    | none => rw [ho] at e; cases e
    | some p =>
      rw [ho] at e
      have e2 : p.block = b := by simpa [Value.ownBlock] using e.symm
      exact h.ap b hb2 p ho e2.symm
  · rcases hl q hq with ⟨p, hp, e⟩ | e
    · rw [← e]; exact h.ap b hb2 p hp
    · have := h.vi.di.blk hb2; omega
end Go.Proofs.Ytflcbefomjlgmaa
