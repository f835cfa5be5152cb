/- Layer 46, shared texts of this seat, part 22. -/
import Derived.Test.YtimhaidiclbnhaaGreatM21
import Derived.Test.YtimhaidiclbnhaaGreatM18
/- Layer 46: a list of states grows by one. -/
set_option linter.unusedSimpArgs false
set_option linter.unusedVariables false
set_option maxRecDepth 100000
namespace Go.Proofs.YtimhaidiclbnhaaGreat.Ver
open Go.ChangeShapes Go.WideShapes Go.ChangeAt Go.RowKit
open Des (Dv De Dn DIn DBlk DAns Vi At RowOf ints DSz)
open Ara (Ar ARow)
open Con (StrRow)

theorem stB_set_cut (L : List Sl) (i : Nat) (hi : i < L.length) (x : Sl) : stB (L.set i x) = stB (L.take i) ++ ((x.a.map Addr.block).toList ++ stB (L.drop (i + 1))) := by
  unfold stB
  rw [List.set_eq_take_append_cons_drop, if_pos hi, List.filterMap_append, List.filterMap_cons]
  cases x.a with
  | none => simp
  | some a => simp
theorem stB_cut (L : List Sl) (i : Nat) (hi : i < L.length) : stB L = stB (L.take i) ++ (((L.getD i Sl.nil).a.map Addr.block).toList ++ stB (L.drop (i + 1))) := by
  have h := stB_set_cut L i hi (L.getD i Sl.nil)
  have e : L.getD i Sl.nil = L[i] := by simp [List.getD, hi]
  rw [show L.set i (L.getD i Sl.nil) = L from by rw [e]; exact List.set_getElem_self hi] at h
  exact h
theorem nd_set (P : List Nat) (L : List Sl) (i : Nat) (hi : i < L.length) (x : Sl) (g : Nat) (hx : x.a.map Addr.block = some g) (h : (P ++ stB L).Nodup) (hg : g ∉ P ++ stB L ∨ (L.getD i Sl.nil).a.map Addr.block = some g) : (P ++ stB (L.set i x)).Nodup := by
  rw [stB_set_cut L i hi x, hx]
  rw [stB_cut L i hi] at h hg
  generalize stB (L.take i) = A at *
  generalize stB (L.drop (i + 1)) = C at *
  generalize (L.getD i Sl.nil).a.map Addr.block = o at *
  rcases hg with hg | hg
  · cases o with
    | none => simp only [Option.toList_none, List.nil_append, Option.toList_some, List.nodup_append, List.mem_append, List.cons_append, List.nodup_cons, List.mem_cons, not_or] at *; grind
    | some b => simp only [Option.toList_none, List.nil_append, Option.toList_some, List.nodup_append, List.mem_append, List.cons_append, List.nodup_cons, List.mem_cons, not_or] at *; grind
  · subst hg; exact h
theorem row_ne (L : List Sl) (h : (stB L).Nodup) (i j : Nat) (hi : i < L.length) (hj : j < L.length) (hne : i ≠ j) (p : Nat) (ha : (L.getD i Sl.nil).a.map Addr.block = some p) (hb : (L.getD j Sl.nil).a.map Addr.block = some p) : False := by
  unfold stB List.Nodup at h
  rw [List.pairwise_filterMap, List.pairwise_iff_getElem] at h
  have e1 : L.getD i Sl.nil = L[i] := by simp [List.getD, hi]
  have e2 : L.getD j Sl.nil = L[j] := by simp [List.getD, hj]
  rw [e1] at ha
  rw [e2] at hb
  rcases Nat.lt_or_gt_of_ne hne with h1 | h1
  · exact h i j hi hj h1 p ha p hb rfl
  · exact h j i hj hi h1 p hb p ha rfl
theorem Im.vs {B : Nat} {W : World} {l : Ly} {s : St} {V V' : List Nat} (h : Im B W l s V) (hv : ∀ b, b ∈ V' → b ∈ V ∨ W.heap.size ≤ b) : Im B W l s V' :=
  ⟨⟨h.di.di, fun b hb hm => by rcases hv b hm with h1 | h1; exact h.di.out b hb h1; have := h.di.di.blk hb; omega⟩, h.dp,
   fun i hi => ⟨(h.ra i hi).1, fun q hq hm => by
      rcases hv _ hm with h1 | h1
      · exact (h.ra i hi).2 q hq h1
      · rcases (h.ra i hi).1 with ⟨h2, _⟩ | ⟨g, h2, _, h3, _⟩
        · rw [h2] at hq; cases hq
        · rw [h2] at hq; cases hq; have h4 : g < W.heap.size := h3; simp only at h1; omega⟩,
   fun i hi => ⟨(h.rh i hi).1, fun q hq hm => by
      rcases hv _ hm with h1 | h1
      · exact (h.rh i hi).2 q hq h1
      · rcases (h.rh i hi).1 with ⟨h2, _⟩ | ⟨g, h2, _, h3, _⟩
        · rw [h2] at hq; cases hq
        · rw [h2] at hq; cases hq; have h4 : g < W.heap.size := h3; simp only at h1; omega⟩, h.sc⟩
theorem own_blk (a : Option Addr) (n c : Nat) : (Value.slice a n c).ownBlock = a.map Addr.block := by cases a <;> rfl
section
variable {B : Nat} {W W1 : World} {l : Ly} {s : St}
theorem vs_set (h : Mm B W l s) (i : Nat) (hi : i < s.st.length) (x : Sl) (g : Nat) (hx : x.a.map Addr.block = some g) (hat : (l.st.getD i Sl.nil).a.map Addr.block = some g ∨ g = W.heap.size) : ∀ b, b ∈ vs { l with st := l.st.set i x } → b ∈ vs l ∨ W.heap.size ≤ b := by
  intro b hb
  unfold vs at hb ⊢
  have hil : i < l.st.length := by rw [h.la']; exact hi
  rcases List.mem_append.1 hb with hb | hb
  · exact Or.inl (List.mem_append.2 (Or.inl hb))
  · simp only at hb
    rw [stB_set_cut l.st i hil x, hx] at hb
    have hc := stB_cut l.st i hil
    rcases List.mem_append.1 hb with h1 | h1
    · exact Or.inl (List.mem_append.2 (Or.inr (by rw [hc]; exact List.mem_append.2 (Or.inl h1))))
    · rcases List.mem_append.1 h1 with h2 | h2
      · simp at h2
        subst h2
        rcases hat with h3 | h3
        · exact Or.inl (List.mem_append.2 (Or.inr (by rw [hc, h3]; simp)))
        · exact Or.inr (by omega)
      · exact Or.inl (List.mem_append.2 (Or.inr (by rw [hc]; exact List.mem_append.2 (Or.inr (List.mem_append.2 (Or.inr h2))))))
theorem Mm.putS (h : Mm B W l s) (i : Nat) (hi : i < s.st.length) (hsf : s.st.length = s.fs.length) (z : Int) (g cap : Nat)
    (hown : W1.ownsRow B 3 1 (.slice (some ⟨g, 0, none⟩) ((s.st.getD i []).length + 1) cap) ((s.st.getD i []).length + 1) (ints (s.st.getD i []) ++ [.int .i64 z]))
    (hgrow : W.grownBy W1 (Value.slice (l.st.getD i Sl.nil).a (s.st.getD i []).length (l.st.getD i Sl.nil).c).ownBlock)
    (hat : (Value.slice (l.st.getD i Sl.nil).a (s.st.getD i []).length (l.st.getD i Sl.nil).c).ownBlock = some g ∨ g = W.heap.size) :
    Mm B (W1.setCell ⟨l.S, i, none⟩ (.slice (some ⟨g, 0, none⟩) ((s.st.getD i []).length + 1) cap)) { l with st := l.st.set i ⟨some ⟨g, 0, none⟩, cap⟩ } { s with st := s.st.set i (s.st.getD i [] ++ [z]) } ∧ Vk (vs l) W (W1.setCell ⟨l.S, i, none⟩ (.slice (some ⟨g, 0, none⟩) ((s.st.getD i []).length + 1) cap)) ∧ (∀ b, b ∈ vs { l with st := l.st.set i ⟨some ⟨g, 0, none⟩, cap⟩ } → b ∈ vs l ∨ W.heap.size ≤ b) := by
  rw [own_blk] at hgrow hat
  have hil : i < l.st.length := by rw [h.la']; exact hi
  have hrow : ∀ q, (l.st.getD i Sl.nil).a.map Addr.block = some q → q ∈ stB l.st := fun q hq => by
    rw [stB_cut l.st i hil, hq]; simp
  have hvsS : ∀ q, q ∈ stB l.st → q ∈ vs l := fun q hq => List.mem_append.2 (Or.inr hq)
  have hk1 : Vk (vs l) W W1 := ⟨hgrow.os, hgrow.tape, hgrow.output, hgrow.size, fun k hk hlt => hgrow.block k hlt fun e => hk (hvsS k (hrow k e.symm))⟩
  have hk2 : Vk (vs l) W (W1.setCell ⟨l.S, i, none⟩ (.slice (some ⟨g, 0, none⟩) ((s.st.getD i []).length + 1) cap)) := hk1.trans (Vk.set W1 _ _ _ (mvs l).2.2.2.2.2.2.1)
  have hvs := vs_set h i hi ⟨some ⟨g, 0, none⟩, cap⟩ g rfl hat
  refine ⟨?_, hk2, hvs⟩
  obtain ⟨⟨a1, a2, a3, a4, a5, a6, a7, a8⟩, ⟨b2, b3, b4, b5, b6, b7, b8⟩, ⟨c3, c4, c5, c6, c7, c8⟩, ⟨d4, d5, d6, d7, d8⟩, ⟨e5, e6, e7, e8⟩, ⟨f6, f7, f8⟩, ⟨g7, g8⟩, _⟩ := h.ne
  obtain ⟨n1, n2, n3, n4, n5, n6, n7, n8, n9⟩ := h.nst
  have o : ∀ {c : Nat} {cs : List Value}, At W c cs → c ∉ stB l.st → At W1 c cs := fun {c cs} h1 hn => At.keepB h1 hgrow.size (hgrow.block c h1.hi fun e => hn (hrow c e.symm))
  have o2 : ∀ {c : Nat} {cs : List Value}, At W c cs → c ∉ stB l.st → c ≠ l.S → At (W1.setCell ⟨l.S, i, none⟩ (.slice (some ⟨g, 0, none⟩) ((s.st.getD i []).length + 1) cap)) c cs := fun {c cs} h1 hn hne => (o h1 hn).setOther (x := ⟨l.S, i, none⟩) hne _
  have hS2 : At (W1.setCell ⟨l.S, i, none⟩ (.slice (some ⟨g, 0, none⟩) ((s.st.getD i []).length + 1) cap)) l.S ((slC l.st s.st).set i (.slice (some ⟨g, 0, none⟩) ((s.st.getD i []).length + 1) cap)) := (o h.S n7).set i _
  have hnew : ∀ b, b ∈ vs { l with st := l.st.set i ⟨some ⟨g, 0, none⟩, cap⟩ } → B ≤ b := fun b hb => by
    rcases hvs b hb with h1 | h1
    · exact h.lo b h1
    · have := h.hB; omega
  have hvx : ∀ b, b ∈ vx { l with st := l.st.set i ⟨some ⟨g, 0, none⟩, cap⟩ } → b ∈ vx l ∨ W.heap.size ≤ b := fun b hb => by
    rcases List.mem_append.1 hb with h1 | h1
    · exact (hvs b h1).imp vs_vx id
    · exact Or.inl (List.mem_append.2 (Or.inr h1))
  have hv2 : ∀ b, b ∈ vx l ++ vx { l with st := l.st.set i ⟨some ⟨g, 0, none⟩, cap⟩ } → b ∈ vx l ∨ W.heap.size ≤ b := fun b hb => by
    rcases List.mem_append.1 hb with h1 | h1
    · exact Or.inl h1
    · exact hvx b h1
  have hlo2 : ∀ b, b ∈ vx l ++ vx { l with st := l.st.set i ⟨some ⟨g, 0, none⟩, cap⟩ } → B ≤ b := fun b hb => by
    rcases hv2 b hb with h1 | h1
    · exact h.lox b h1
    · have := h.hB; omega
  have him : Im B (W1.setCell ⟨l.S, i, none⟩ (.slice (some ⟨g, 0, none⟩) ((s.st.getD i []).length + 1) cap)) l s (vx { l with st := l.st.set i ⟨some ⟨g, 0, none⟩, cap⟩ }) :=
    ((h.im.vs hv2).keep (hk2.more fun b hb => Or.inl (List.mem_append.2 (Or.inl (vs_vx hb)))) hlo2 h.hB).vs fun b hb => Or.inl (List.mem_append.2 (Or.inr hb))
  refine ⟨⟨him.di, him.dp, him.ra, him.rh, him.sc⟩, ?_, o2 h.f n2 b6, o2 h.a n3 c6, o2 h.la n4 d6, o2 h.r n5 e6, o2 h.h n6 f6, ?_, o2 h.n n8 g7.symm, o2 h.b n9 g8.symm, ?_, ?_, hnew, Nat.le_trans h.hB hk2.size, ?_, h.lh', h.lr', fun b hb => ⟨Nat.lt_of_lt_of_le (h.hx b hb).1 hk2.size, (h.hx b hb).2⟩⟩
  · have := o2 h.m n1 a6
    simpa [mC] using this
  · have e := slC_set l.st s.st i ⟨some ⟨g, 0, none⟩, cap⟩ (s.st.getD i [] ++ [z]) hi h.la'
    rw [List.length_append, List.length_singleton] at e
    rw [e] at hS2
    exact hS2
  · intro j hj
    simp only [List.length_set] at hj
    simp only
    rw [getD_set _ _ _ _ _ hil, getD_set _ _ _ _ _ hi]
    have hgS : g ≠ l.S := fun e => by
      rcases hat with h1 | h1
      · exact n7 (by rw [← e]; exact hrow g h1)
      · have := h.S.hi; omega
    by_cases hij : j = i
    · subst hij
      rw [if_pos rfl, if_pos rfl]
      have e : ints (s.st.getD j [] ++ [z]) = ints (s.st.getD j []) ++ [.int .i64 z] := by simp [ints]
      rw [e, List.length_append, List.length_singleton]
      exact own_keepB hown fun q hq => Below.heap_setCell W1 ⟨l.S, j, none⟩ _ q (fun e => by
        simp only [Value.ownBlock, Option.some.injEq] at hq
        exact hgS (hq.trans e))
    · rw [if_neg hij, if_neg hij]
      have hjl : j < l.st.length := by rw [h.la']; exact hj
      refine own_keepB (h.rs j hj) fun q hq => ?_
      have hq2 : (l.st.getD j Sl.nil).a.map Addr.block = some q := by rw [← own_blk]; exact hq
      have hqs : q ∈ stB l.st := by rw [stB_cut l.st j hjl, hq2]; simp
      have hqS : q ≠ l.S := fun e => n7 (by rw [← e]; exact hqs)
      rw [Below.heap_setCell W1 ⟨l.S, i, none⟩ _ q hqS]
      exact hgrow.block q ((h.rs j hj).lt q hq).2 fun e => row_ne l.st (by have := h.nd; unfold vs at this; exact (List.nodup_append.1 this).2.1) j i hjl hil hij q hq2 e.symm
  · exact nd_set _ _ _ hil _ g rfl h.nd (by
      rcases hat with h1 | h1
      · exact Or.inr h1
      · exact Or.inl fun hm => by have := h.hi g hm; omega)
  · simp [h.la']
/-- a block that is not the model's has grown -/
theorem Mm.grow (h : Mm B W l s) {row : Option Nat} (hgrow : W.grownBy W1 row) (hrow : ∀ g, row = some g → g ∈ l.ex ∧ g ∉ vs l) (ex' : List Nat) (hex : ∀ b, b ∈ ex' → (b ∈ l.ex ∨ W.heap.size ≤ b) ∧ b < W1.heap.size) : Mm B W1 { l with ex := ex' } s := by
  have hk : Vk (vx l) W W1 := ⟨hgrow.os, hgrow.tape, hgrow.output, hgrow.size, fun k hk hlt => hgrow.block k hlt fun e => hk (List.mem_append.2 (Or.inr (hrow k e.symm).1))⟩
  have hv : ∀ b, b ∈ vx l ++ vx { l with ex := ex' } → b ∈ vx l ∨ W.heap.size ≤ b := fun b hb => by
    rcases List.mem_append.1 hb with h1 | h1
    · exact Or.inl h1
    · rcases List.mem_append.1 h1 with h2 | h2
      · exact Or.inl (vs_vx h2)
      · exact (hex b h2).1.imp (fun h3 => List.mem_append.2 (Or.inr h3)) id
  have hlo : ∀ b, b ∈ vx l ++ vx { l with ex := ex' } → B ≤ b := fun b hb => by
    rcases hv b hb with h1 | h1
    · exact h.lox b h1
    · have := h.hB; omega
  have him : Im B W1 l s (vx { l with ex := ex' }) := ((h.im.vs hv).keep (hk.more fun b hb => Or.inl (List.mem_append.2 (Or.inl hb))) hlo h.hB).vs fun b hb => Or.inl (List.mem_append.2 (Or.inr hb))
  have o : ∀ {c : Nat} {cs : List Value}, At W c cs → c ∈ vs l → At W1 c cs := fun {c cs} h1 hn => At.keepB h1 hgrow.size (hgrow.block c h1.hi fun e => (hrow c e.symm).2 hn)
  obtain ⟨m1, m2, m3, m4, m5, m6, m7, m8, m9⟩ := mvs l
  exact ⟨⟨him.di, him.dp, him.ra, him.rh, him.sc⟩, o h.m m1, o h.f m2, o h.a m3, o h.la m4, o h.r m5, o h.h m6, o h.S m7, o h.n m8, o h.b m9,
    fun i hi => own_keepB (h.rs i hi) fun q hq => hgrow.block q ((h.rs i hi).lt q hq).2 fun e => (hrow q e.symm).2 (List.mem_append.2 (Or.inr (h.sn hi hq))), h.nd, h.lo, Nat.le_trans h.hB hgrow.size, h.la', h.lh', h.lr',
    fun b hb => ⟨(hex b hb).2, hlo b (List.mem_append.2 (Or.inr (List.mem_append.2 (Or.inr hb))))⟩⟩
end
end Go.Proofs.YtimhaidiclbnhaaGreat.Ver
/- Adding a state to a history: the program's way. -/
set_option linter.unusedSimpArgs false
set_option linter.unusedVariables false
set_option maxRecDepth 100000
namespace Go.Proofs.YtimhaidiclbnhaaGreat.Con
open Go.ChangeShapes Go.WideShapes Go.ChangeAt Go.RowKit

theorem StrRow.one_new (w : World) (d : ByteArray) (fz : Nat × Nat) : StrRow 0 (some ⟨w.heap.size, 0, none⟩) 1 [d] (w.alloc (.cells #[.string d] 9 fz)) := by
  refine Or.inr ⟨w.heap.size, rfl, Nat.zero_le _, by simp, by simp, by unfold maxLen; omega, fun j hj => ?_⟩
  have : j = 0 := by simpa using hj
  subst this
  rw [World.cell?_alloc_mark]
  rfl
theorem own_mono {w : World} {B C : Nat} {e : TypeId} {size n : Nat} {v : Value} {xs : List Value} (h : w.ownsRow B e size v n xs) (hb : C ≤ B) : w.ownsRow C e size v n xs := by
  refine ⟨h.1, ?_⟩
  rcases h.2 with hn | ⟨g, cap, cur, e1, e2, e3⟩
  · exact Or.inl hn
  · exact Or.inr ⟨g, cap, cur, e1, Nat.le_trans hb e2, e3⟩

set_option maxHeartbeats 4000000 in
theorem change_any (B : Nat) (a : Option Addr) (l : List ByteArray) (cap : Nat) (q : Int) (s : ByteArray) (w : World) (h : StrRow B a cap l w) (hl : l.length ≤ 10000) :
    Calls Tryz.prog 37 #[.agg #[.slice a l.length cap, .int .i64 q], .string s] w fun e w' => ∃ a' cap', e = .returned (.agg #[.slice a' (l.length + 1) cap', .int .i64 q]) ∧ StrRow w.heap.size a' cap' (l ++ [s]) w' ∧ Below w.heap.size w w' := by
  have HC : Hid (∀ W, Hst w W (.slice a l.length cap) q → Calls Tryz.prog 64 #[.slice a l.length cap] W fun e w' => ∃ v', e = .returned v' ∧ w'.ownsRow (w.heap.size + 2) 9 1 v' l.length (l.map Value.string) ∧ Below W.heap.size W w' ∧ Hst w w' (.slice a l.length cap) q) := by
    intro W hW
    refine (clone_any B a l cap W (h.below hW.bel) (by omega)).mono ?_
    rintro e w' ⟨v', rfl, ho, hb⟩
    exact ⟨v', rfl, own_mono ho hW.lt, hb, hW.below hb hW.lt⟩
  clear h
  go_enter Tryz.func37, Tryz.ntmps37
  go_wp2_with fail
  have H0 := Lib.hid (Hst.start w (.slice a l.length cap) q)
  generalize (w.alloc (Obj.cells #[.slice a l.length cap, .int .i64 q] 57)).alloc (Obj.cells #[.slice none 0 0, .int .i64 0] 57) = W0 at *
  have p0 := H0.out.p0
  have p1 := H0.out.p1
  have plt : w.heap.size < W0.heap.size := Nat.lt_of_lt_of_le (by omega) H0.out.lt
  have plt2 : w.heap.size + 1 < W0.heap.size := Nat.lt_of_lt_of_le (by omega) H0.out.lt
  replace H0 := Lib.hid (H0.out.below (Below.refl _ _).drew H0.out.lt)
  go_region_held3 (fun w' => w'.cell? ⟨w.heap.size, 0, none⟩ = some (.slice a l.length cap) ∧ w'.cell? ⟨w.heap.size, 1, none⟩ = some (.int .i64 q)) (go_keep) (first | (go_at_call 64; refine (HC.out _ (by first | exact H0.out | exact H0.out.below ((Below.refl _ _).alloc (Nat.le_refl _) _) H0.out.lt)).mono ?_; rintro e w1 ⟨v1, rfl, ho, hb1, H1⟩; have klt : w.heap.size < w1.heap.size := Nat.lt_of_lt_of_le (by omega) H1.lt; have k0 := H1.p0; have k1 := H1.p1) | (rw [if_pos (by rfl)]; refine wp_app (Operand.tmp 7) (Operand.tmp 9) rfl (w.heap.size + 2) v1 l rfl ?_ 0 _ [s] 1 rfl ?_ (by omega) (by simp) ?_ ?_; (first | exact ho | exact ho.alloc _); (first | exact StrRow.one_new _ _ _ | exact (StrRow.one_new _ _ _).below hb1 | exact ((StrRow.one_new _ _ _).below (Below.refl _ _).drew).below hb1); (first | exact H1.lt | exact Nat.le_trans H1.lt (by simp)); intro a2 cap2 w2 ho2 hr2 hb2; have H2 : Hst w w2 (.slice a l.length cap) q := (by first | exact H1.below hb2 (Nat.le_refl _) | exact (H1.below ((Below.refl _ _).alloc (Nat.le_refl _) _) H1.lt).below hb2 (Nat.le_refl _)); have k0' := H2.p0; have k1' := H2.p1; obtain ⟨u0, r0⟩ := H2.r0; obtain ⟨u1, r1⟩ := H2.r1; have f0 := H2.f0; have f1 := H2.f1))
  all_goals
    have HD := H2.done (.slice a2 (l.length + 1) cap2) q hr2
    generalize (w2.setCell { block := w.heap.size + 1, off := 0 } (Value.slice a2 (l.length + 1) cap2)).setCell { block := w.heap.size + 1, off := 1 } (Value.int IntKind.i64 q) = W3 at *
    obtain ⟨d0, d1, d2, d3⟩ := HD
    go_wp2_with fail
    refine bodyPost_ret (v := .agg #[.slice a2 (l.length + 1) cap2, .int .i64 q]) (by simp [results, Tryz.results37, go_sem, d0, d1]) rfl ⟨_, _, rfl, d3, d2⟩
end Go.Proofs.YtimhaidiclbnhaaGreat.Con
/- Histories: the document's way of adding a state, and synchronisations. -/
set_option linter.unusedSimpArgs false
set_option linter.unusedVariables false
set_option maxRecDepth 100000
namespace Go.Proofs.YtimhaidiclbnhaaGreat.Con
open Go.ChangeShapes Go.WideShapes Go.ChangeAt Go.RowKit

/-- the place that is synchronised afterwards -/
def syncV (n : Nat) (q at_ : Int) : Int := if 0 ≤ at_ ∧ q < at_ ∧ at_ < n then at_ else q

/-- what is known behind the making of the answer's own history, in block g -/
structure Mid (w W : World) (s0 v : Value) (q : Int) (g : Nat) : Prop where
  h : Hst w W s0 q
  lo : w.heap.size + 2 ≤ g
  c0 : W.cell? ⟨g, 0, none⟩ = some v
  c1 : W.cell? ⟨g, 1, none⟩ = some (.int .i64 q)
  f0 : W.frozen? ⟨g, 0, none⟩ = false
  f1 : W.frozen? ⟨g, 1, none⟩ = false
theorem Mid.mk' {w W : World} {s0 u0 u1 : Value} {q : Int} {g : Nat} (h : Hst w W s0 q) (lo : w.heap.size + 2 ≤ g) (v : Value) (c0 : W.cell? ⟨g, 0, none⟩ = some u0) (c1 : W.cell? ⟨g, 1, none⟩ = some u1)
    (f0 : W.frozen? ⟨g, 0, none⟩ = false) (f1 : W.frozen? ⟨g, 1, none⟩ = false) :
    Mid w ((W.setCell ⟨g, 0, none⟩ v).setCell ⟨g, 1, none⟩ (.int .i64 q)) s0 v q g := by
  have hb : Below (w.heap.size + 2) W ((W.setCell ⟨g, 0, none⟩ v).setCell ⟨g, 1, none⟩ (.int .i64 q)) := ((Below.refl _ W).setCell (by show _ ≤ g; omega) v).setCell (by show _ ≤ g; omega) _
  have c1' : (W.setCell ⟨g, 0, none⟩ v).cell? ⟨g, 1, none⟩ = some u1 := by
    rw [World.cell?_setCell_other _ _ _ _ (by simp), c1]
  refine ⟨h.below hb (Nat.le_refl _), lo, ?_, World.cell?_setCell_same _ _ _ c1', by rw [World.frozen?_setCell, World.frozen?_setCell]; exact f0, by rw [World.frozen?_setCell, World.frozen?_setCell]; exact f1⟩
  rw [World.cell?_setCell_other _ _ _ _ (by simp)]
  exact World.cell?_setCell_same _ _ _ c0
theorem StrRow.put2 {B cap g : Nat} {a : Option Addr} {l : List ByteArray} {w : World} {v v' : Value} (h : StrRow B a cap l w) (hg : ∀ g', a = some ⟨g', 0, none⟩ → g' ≠ g) (i j : Nat) : StrRow B a cap l ((w.setCell ⟨g, i, none⟩ v).setCell ⟨g, j, none⟩ v') := by
  rcases h with h | ⟨g', h1, h2, h3, h4, h5, h6⟩
  · exact Or.inl h
  · refine Or.inr ⟨g', h1, h2, by simpa [World.setCell] using h3, h4, h5, fun k hk => ?_⟩
    have := hg g' h1
    rw [World.cell?_setCell_other _ _ _ _ (by intro e; cases e; omega), World.cell?_setCell_other _ _ _ _ (by intro e; cases e; omega)]
    exact h6 k hk
theorem StrRow.put1 {B cap g : Nat} {a : Option Addr} {l : List ByteArray} {w : World} {v : Value} (h : StrRow B a cap l w) (hg : ∀ g', a = some ⟨g', 0, none⟩ → g' ≠ g) (i : Nat) : StrRow B a cap l (w.setCell ⟨g, i, none⟩ v) := by
  rcases h with h | ⟨g', h1, h2, h3, h4, h5, h6⟩
  · exact Or.inl h
  · refine Or.inr ⟨g', h1, h2, by simpa [World.setCell] using h3, h4, h5, fun k hk => ?_⟩
    have := hg g' h1
    rw [World.cell?_setCell_other _ _ _ _ (by intro e; cases e; omega)]
    exact h6 k hk
theorem StrRow.ne_hi {B cap g : Nat} {a : Option Addr} {l : List ByteArray} {w : World} (h : StrRow B a cap l w) (hg : w.heap.size ≤ g) : ∀ g', a = some ⟨g', 0, none⟩ → g' ≠ g := by
  rintro g' rfl
  rcases h with ⟨h, _⟩ | ⟨g2, h1, h2, h3, _⟩
  · cases h
  · cases h1; omega
theorem StrRow.ne_lo {B cap g : Nat} {a : Option Addr} {l : List ByteArray} {w : World} (h : StrRow B a cap l w) (hg : g < B) : ∀ g', a = some ⟨g', 0, none⟩ → g' ≠ g := by
  rintro g' rfl
  rcases h with ⟨h, _⟩ | ⟨g2, h1, h2, h3, _⟩
  · cases h
  · cases h1; omega

set_option maxHeartbeats 4000000 in
theorem synced_any (B : Nat) (a : Option Addr) (l : List ByteArray) (cap : Nat) (q t : Int) (w : World) (h : StrRow B a cap l w) (hl : l.length ≤ 10000) :
    Calls Tryz.prog 105 #[.agg #[.slice a l.length cap, .int .i64 q], .int .i64 t] w fun e w' => ∃ a' cap', e = .returned (.agg #[.slice a' l.length cap', .int .i64 (syncV l.length q t)]) ∧ StrRow w.heap.size a' cap' l w' ∧ Below w.heap.size w w' := by
  have HC : Hid (∀ W, Hst w W (.slice a l.length cap) q → Calls Tryz.prog 64 #[.slice a l.length cap] W fun e w' => ∃ a1 cap1, e = .returned (.slice a1 l.length cap1) ∧ StrRow W.heap.size a1 cap1 l w' ∧ Below W.heap.size W w' ∧ Hst w w' (.slice a l.length cap) q) := by
    intro W hW
    refine (clone_any B a l cap W (h.below hW.bel) (by omega)).mono ?_
    rintro e w' ⟨v', rfl, ho, hb⟩
    obtain ⟨a1, cap1, rfl, _, hr⟩ := StrRow.ofOwn ho
    exact ⟨a1, cap1, rfl, hr, hb, hW.below hb hW.lt⟩
  clear h
  go_enter Tryz.func105, Tryz.ntmps105
  go_wp2_with fail
  have H0 := Lib.hid (Hst.start w (.slice a l.length cap) q)
  generalize (w.alloc (Obj.cells #[.slice a l.length cap, .int .i64 q] 57)).alloc (Obj.cells #[.slice none 0 0, .int .i64 0] 57) = W0 at *
  have p0 := H0.out.p0
  have p1 := H0.out.p1
  have plt : w.heap.size < W0.heap.size := Nat.lt_of_lt_of_le (by omega) H0.out.lt
  have plt2 : w.heap.size + 1 < W0.heap.size := Nat.lt_of_lt_of_le (by omega) H0.out.lt
  have pne : W0.heap.size ≠ w.heap.size := by omega
  have pne' : w.heap.size ≠ W0.heap.size := by omega
  replace H0 := Lib.hid (H0.out.below (Below.refl _ _).drew H0.out.lt)
  go_region_held3 (fun w' => w'.cell? ⟨w.heap.size, 0, none⟩ = some (.slice a l.length cap) ∧ w'.cell? ⟨w.heap.size, 1, none⟩ = some (.int .i64 q)) (go_keep) (first | (go_at_call 64; refine (HC.out _ (by first | exact H0.out | exact H0.out.below ((Below.refl _ _).alloc (Nat.le_refl _) _) H0.out.lt)).mono ?_; rintro e w1 ⟨a1, cap1, rfl, hr1, hb1, H1⟩; have klt : w.heap.size < w1.heap.size := Nat.lt_of_lt_of_le (by omega) H1.lt; have k0 := H1.p0; have k1 := H1.p1; obtain ⟨hc1, hf1⟩ := bcell hb1))
  · have M : Mid w (w1.alloc (Obj.cells #[Value.slice a1 l.length cap1, Value.int IntKind.i64 q] 57)) (.slice a l.length cap) (.slice a1 l.length cap1) q w1.heap.size := by
      refine ⟨H1.below ((Below.refl _ _).alloc (Nat.le_refl _) _) H1.lt, H1.lt, ?_, ?_, ?_, ?_⟩ <;> simp
    have HRw : StrRow (w.heap.size + 2) a1 cap1 l (w1.alloc (Obj.cells #[Value.slice a1 l.length cap1, Value.int IntKind.i64 q] 57)) := (hr1.mono H0.out.lt).below ((Below.refl _ _).alloc (Nat.le_refl _) _)
    have HN := hr1.ne_hi (Nat.le_refl _)
    generalize w1.alloc (Obj.cells #[Value.slice a1 l.length cap1, Value.int IntKind.i64 q] 57) = W2 at *
    generalize w1.heap.size = g at *
    clear hb1 hr1 klt k0 k1 H1 plt plt2 pne pne' p0 p1 HC
    have m0 := M.c0; have m1 := M.c1; have n0 := M.f0; have n1 := M.f1
    have q0 := M.h.p0; have q1 := M.h.p1; obtain ⟨u0, r0⟩ := M.h.r0; obtain ⟨u1, r1⟩ := M.h.r1; have f0 := M.h.f0; have f1 := M.h.f1
    have gne : g ≠ w.heap.size := by have := M.lo; omega
    have gne' : w.heap.size ≠ g := by have := M.lo; omega
    have gne2 : g ≠ w.heap.size + 1 := by have := M.lo; omega
    have gne2' : w.heap.size + 1 ≠ g := by have := M.lo; omega
    by_cases hc : 0 ≤ t ∧ q < t ∧ t < (l.length : Int)
    · have HV : Hid (syncV l.length q t = t) := by unfold Hid syncV; rw [if_pos hc]
      have M2 : Hst w (W2.setCell ⟨g, 1, none⟩ (.int .i64 t)) (.slice a l.length cap) q := M.h.below ((Below.refl _ _).setCell (p := ⟨g, 1, none⟩) M.lo _) (Nat.le_refl _)
      have HD := M2.done (.slice a1 l.length cap1) t (StrRow.put1 HRw HN 1)
      obtain ⟨h0, h1, h2⟩ := hc
      clear M2 M
      go_wp2_with fail
      generalize ((W2.setCell { block := g, off := 1 } (Value.int IntKind.i64 t)).setCell { block := w.heap.size + 1, off := 0 } (Value.slice a1 l.length cap1)).setCell { block := w.heap.size + 1, off := 1 } (Value.int IntKind.i64 t) = W3 at *
      obtain ⟨d0, d1, d2, d3⟩ := HD
      refine bodyPost_ret (v := .agg #[.slice a1 l.length cap1, .int .i64 t]) (by simp [results, Tryz.results105, go_sem, d0, d1]) rfl ⟨_, _, by rw [HV.out], d3, d2⟩
    · have HV : Hid (syncV l.length q t = q) := by unfold Hid syncV; rw [if_neg hc]
      have HC : Hid (¬ (0 ≤ t ∧ q < t ∧ t < (l.length : Int))) := hc
      have HD := M.h.done (.slice a1 l.length cap1) q HRw
      clear hc M
      go_wp2_with fail
      all_goals
        first
        | (exfalso; have := HC.out; omega)
        | (generalize (W2.setCell { block := w.heap.size + 1, off := 0 } (Value.slice a1 l.length cap1)).setCell { block := w.heap.size + 1, off := 1 } (Value.int IntKind.i64 q) = W3 at *
           obtain ⟨d0, d1, d2, d3⟩ := HD
           refine bodyPost_ret (v := .agg #[.slice a1 l.length cap1, .int .i64 q]) (by simp [results, Tryz.results105, go_sem, d0, d1]) rfl ⟨_, _, by rw [HV.out], d3, d2⟩)
  · have hb2 : Below (W0.heap.size + 1) (W0.alloc (Obj.cells #[Value.slice none 0 0, Value.int IntKind.i64 0] 57)) w1 := (((Below.refl _ _).drew).trans hb1).mono (by simp)
    have M : Mid w ((w1.setCell { block := W0.heap.size, off := 0 } (Value.slice a1 l.length cap1)).setCell { block := W0.heap.size, off := 1 } (Value.int IntKind.i64 q)) (.slice a l.length cap) (.slice a1 l.length cap1) q W0.heap.size := by
      refine Mid.mk' (u0 := .slice none 0 0) (u1 := .int .i64 0) H1 H0.out.lt _ ?_ ?_ ?_ ?_
      · rw [hb2.cell (by show W0.heap.size < _; omega)]; simp
      · rw [hb2.cell (by show W0.heap.size < _; omega)]; simp
      · rw [hb2.frozen (by show W0.heap.size < _; omega)]; simp
      · rw [hb2.frozen (by show W0.heap.size < _; omega)]; simp
    have HN := hr1.ne_lo (g := W0.heap.size) (by simp)
    have HRw : StrRow (w.heap.size + 2) a1 cap1 l ((w1.setCell { block := W0.heap.size, off := 0 } (Value.slice a1 l.length cap1)).setCell { block := W0.heap.size, off := 1 } (Value.int IntKind.i64 q)) := StrRow.put2 (hr1.mono (Nat.le_trans H0.out.lt (by simp))) HN 0 1
    generalize (w1.setCell { block := W0.heap.size, off := 0 } (Value.slice a1 l.length cap1)).setCell { block := W0.heap.size, off := 1 } (Value.int IntKind.i64 q) = W2 at *
    generalize W0.heap.size = g at *
    clear hb1 hr1 klt k0 k1 H1 plt plt2 pne pne' p0 p1 HC
    have m0 := M.c0; have m1 := M.c1; have n0 := M.f0; have n1 := M.f1
    have q0 := M.h.p0; have q1 := M.h.p1; obtain ⟨u0, r0⟩ := M.h.r0; obtain ⟨u1, r1⟩ := M.h.r1; have f0 := M.h.f0; have f1 := M.h.f1
    have gne : g ≠ w.heap.size := by have := M.lo; omega
    have gne' : w.heap.size ≠ g := by have := M.lo; omega
    have gne2 : g ≠ w.heap.size + 1 := by have := M.lo; omega
    have gne2' : w.heap.size + 1 ≠ g := by have := M.lo; omega
    by_cases hc : 0 ≤ t ∧ q < t ∧ t < (l.length : Int)
    · have HV : Hid (syncV l.length q t = t) := by unfold Hid syncV; rw [if_pos hc]
      have M2 : Hst w (W2.setCell ⟨g, 1, none⟩ (.int .i64 t)) (.slice a l.length cap) q := M.h.below ((Below.refl _ _).setCell (p := ⟨g, 1, none⟩) M.lo _) (Nat.le_refl _)
      have HD := M2.done (.slice a1 l.length cap1) t (StrRow.put1 HRw HN 1)
      obtain ⟨h0, h1, h2⟩ := hc
      clear M2 M
      go_wp2_with fail
      generalize ((W2.setCell { block := g, off := 1 } (Value.int IntKind.i64 t)).setCell { block := w.heap.size + 1, off := 0 } (Value.slice a1 l.length cap1)).setCell { block := w.heap.size + 1, off := 1 } (Value.int IntKind.i64 t) = W3 at *
      obtain ⟨d0, d1, d2, d3⟩ := HD
      refine bodyPost_ret (v := .agg #[.slice a1 l.length cap1, .int .i64 t]) (by simp [results, Tryz.results105, go_sem, d0, d1]) rfl ⟨_, _, by rw [HV.out], d3, d2⟩
    · have HV : Hid (syncV l.length q t = q) := by unfold Hid syncV; rw [if_neg hc]
      have HC : Hid (¬ (0 ≤ t ∧ q < t ∧ t < (l.length : Int))) := hc
      have HD := M.h.done (.slice a1 l.length cap1) q HRw
      clear hc M
      go_wp2_with fail
      all_goals
        first
        | (exfalso; have := HC.out; omega)
        | (generalize (W2.setCell { block := w.heap.size + 1, off := 0 } (Value.slice a1 l.length cap1)).setCell { block := w.heap.size + 1, off := 1 } (Value.int IntKind.i64 q) = W3 at *
           obtain ⟨d0, d1, d2, d3⟩ := HD
           refine bodyPost_ret (v := .agg #[.slice a1 l.length cap1, .int .i64 q]) (by simp [results, Tryz.results105, go_sem, d0, d1]) rfl ⟨_, _, by rw [HV.out], d3, d2⟩)
end Go.Proofs.YtimhaidiclbnhaaGreat.Con
