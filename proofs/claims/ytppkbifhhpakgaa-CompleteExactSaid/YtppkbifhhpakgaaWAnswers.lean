/- The walk of CompleteAnswers. -/
import Derived.Test.YtppkbifhhpakgaaAwake
namespace Go.Proofs.Ytppkbifhhpakgaa
open Go.ChangeShapes Go.WideShapes Go.ChangeAt Go.RowKit

theorem load_rv {ops : Array Oper} {rest : List Oper} {op : Oper} {a : Act} {w : World} {Q : Exit → Act → World → Prop} {x : Operand} {b : Nat} {id k c : Int}
    (h : At w b (RV id k c)) (hx : a.eval x = .pointer (some ⟨b, 0, none⟩)) (hg : op.guard = none) (ho : op.op = .load 23 x)
    (hn : wpList Try.prog ops Q rest (a.put op.dst (.agg (RV id k c).toArray)) w) : Hid (wpList Try.prog ops Q (op :: rest) a w) :=
  wpList_load_mid hg 23 x ho b 0 hx _ _ h.r Try.underlying23 rfl size23 hn
theorem part_cell {w : World} {base : Nat} {a : Option Addr} {n c : Nat} {xs : List Prt} (h : w.ownsRow base 39 4 (.slice a n c) xs.length (flat xs)) (k : Nat) (p : Prt) (hk : xs[k]? = some p) :
    ∃ g, a = some ⟨g, 0, none⟩ ∧ n = xs.length ∧ base ≤ g ∧ g < w.heap.size ∧ w.cell? ⟨g, k * 4, none⟩ = some (.int .i64 p.off) ∧ w.cell? ⟨g, k * 4 + 1, none⟩ = some (.int .i64 p.cnt) ∧ w.cell? ⟨g, k * 4 + 2, none⟩ = some (.int .i64 p.err) ∧ w.cell? ⟨g, k * 4 + 3, none⟩ = some (.string p.dat) := by
  have hl : k < xs.length := (List.getElem?_eq_some_iff.1 hk).1
  have hflat : ∀ (ys : List Prt) (m : Nat) (q : Prt), ys[m]? = some q → (flat ys)[m * 4]? = some (.int .i64 q.off) ∧ (flat ys)[m * 4 + 1]? = some (.int .i64 q.cnt) ∧ (flat ys)[m * 4 + 2]? = some (.int .i64 q.err) ∧ (flat ys)[m * 4 + 3]? = some (.string q.dat) := by
    intro ys
    induction ys with
    | nil => intro m q hq; simp at hq
    | cons y r ih =>
      intro m q hq
      cases m with
      | zero => simp at hq; subst hq; exact ⟨rfl, rfl, rfl, rfl⟩
      | succ m =>
        have := ih m q (by simpa using hq)
        rw [show (m + 1) * 4 = m * 4 + 4 from by omega]
        exact this
  rcases h.2 with ⟨h1, h2⟩ | ⟨g, cap, cur, h1, hb, hg, _⟩
  · omega
  · simp only [Value.slice.injEq] at h1
    obtain ⟨rfl, rfl, rfl⟩ := h1
    obtain ⟨f0, f1, f2, f3⟩ := hflat xs k p hk
    refine ⟨g, rfl, rfl, hb, (Array.getElem?_eq_some_iff.1 hg).1, ?_, ?_, ?_, ?_⟩
    · rw [h.cellAt (k * 4) (by omega)]; exact f0
    · rw [h.cellAt (k * 4 + 1) (by omega)]; exact f1
    · rw [h.cellAt (k * 4 + 2) (by omega)]; exact f2
    · rw [h.cellAt (k * 4 + 3) (by omega)]; exact f3
theorem ArgRow.next {w wr : World} {a : Option Addr} {len : Nat} (h : ArgRow w a len) (hb : Below w.heap.size w wr) : ArgRow wr a len := by
  obtain ⟨b, o, zs, hz, hh⟩ := h
  refine ⟨b, o, zs, hz, fun k hk => ?_⟩
  obtain ⟨h1, h2, h3⟩ := hh k hk
  exact ⟨h1, Nat.lt_of_lt_of_le h2 hb.size, (hb.cell (p := ⟨b, o + k, none⟩) h2).trans h3⟩
theorem own_block_lt {w : World} {base s n : Nat} {e : TypeId} {v : Value} {xs : List Value} (h : w.ownsRow base e s v n xs) : ∀ k, v.ownBlock = some k → base ≤ k ∧ k < w.heap.size := by
  intro k hk
  rcases h.2 with ⟨rfl, _⟩ | ⟨g, c, cur, rfl, hb, hg, _⟩
  · simp [Value.ownBlock] at hk
  · simp [Value.ownBlock] at hk; subst hk; exact ⟨hb, (Array.getElem?_eq_some_iff.1 hg).1⟩
theorem own_lt {w w' : World} {base B : Nat} {e : TypeId} {size : Nat} {v : Value} {n : Nat} {xs : List Value} (h : w.ownsRow base e size v n xs) (hb : Below B w w') (hB : ∀ k, v.ownBlock = some k → k < B) : w'.ownsRow base e size v n xs := by
  obtain ⟨h1, h2⟩ := h
  refine ⟨h1, ?_⟩
  rcases h2 with h2 | ⟨g, cap, cur, rfl, hg, hh, r⟩
  · exact Or.inl h2
  · exact Or.inr ⟨g, cap, cur, rfl, hg, by rw [hb.block g (hB g rfl)]; exact hh, r⟩
theorem partS_er {c lf er ea off cnt x l' er' ea' : Int} {P d P' : ByteArray} (h : partS 1 c lf er ea P off cnt x d = (l', er', ea', P')) (hf : fitB c = true) (h2 : er ≠ 0 → ea ≤ off) : er' = if er = 0 then x else er := by
  unfold partS at h
  rw [if_neg (by simp [hf])] at h
  by_cases hx : x = 0
  · rw [if_neg (by simp [hx])] at h
    split at h <;> (simp only [Prod.mk.injEq] at h; obtain ⟨_, rfl, _⟩ := h; split <;> omega)
  · rw [if_pos hx] at h
    split at h
    · rename_i h3
      simp only [Prod.mk.injEq] at h; obtain ⟨_, rfl, _⟩ := h
      split
      · rfl
      · rename_i h4; rcases h3 with h3 | h3
        · exact absurd h3 h4
        · have := h2 h4; omega
    · rename_i h3
      simp only [Prod.mk.injEq] at h; obtain ⟨_, rfl, _⟩ := h
      rw [if_neg (fun e => h3 (Or.inl e))]
theorem dats_take {xs : List Prt} {i : Nat} {p : Prt} (h : xs[i]? = some p) : dats (xs.take (i + 1)) = dats (xs.take i) ++ bl p.dat := by
  unfold dats; rw [List.take_add_one, h]; simp
theorem dats_len : ∀ {xs : List Prt}, (∀ p ∈ xs, Good p) → (dats xs).length ≤ 64 * xs.length
  | [], _ => Nat.le_refl _
  | p :: r, h => by
    have ih := dats_len (xs := r) (fun q hq => h q (by simp [hq]))
    have hg := h p (by simp)
    have h1 := bl_len p.dat
    have h2 : p.dat.size ≤ 64 := by
      rcases hg.2.2.2 with h3 | h3
      · have := hg.2.2.1; omega
      · rw [h3.2]; exact Nat.zero_le _
    have e : dats (p :: r) = bl p.dat ++ dats r := by simp [dats]
    rw [e, List.length_append, List.length_cons]; omega
theorem chain_good {xs : List Prt} {s e : Int} (h : Chain s xs e) : ∀ p ∈ xs, Good p := by
  intro p hp
  obtain ⟨j, hj, rfl⟩ := List.mem_iff_getElem.1 hp
  exact (chain_at h (List.getElem?_eq_getElem hj)).2.2
structure AInv (w : World) (b : Nat) (c : Int) (xs : List Prt) (g6 : Value) (i : Nat) (er : Int) (W : ByteArray) (wr : World) : Prop where
  bel : Below w.heap.size w wr
  at_ : ∃ ea P, At wr b (PV 3 1 c (-(i : Int)) er ea P) ∧ PS c xs (fun j => decide (j < i)) er ea P
  blo : w.heap.size ≤ b
  own : wr.ownsRow (w.heap.size + 1) 39 4 g6 xs.length (flat xs)
  lt : ∀ k, g6.ownBlock = some k → k < b
  W : bl W = dats (xs.take i)

set_option maxRecDepth 100000 in
set_option maxHeartbeats 4000000 in
theorem answers_walk (n : Int) (a : Option Addr) (len cap : Nat) (w : World) (ha : ArgRow w a len) (hl : len ≤ maxLen) :
    Calls Try.prog 6 #[.int .i64 n, .slice a len cap] w (RetW (.bool true) w) := by
  go_enter Try.func6, Try.ntmps6
  go_wp2_with fail
  refine (round_int n 8 _ (by omega) (by omega)).mono ?_
  rintro e1 w1 ⟨r, hr0, hr1, rfl, rfl⟩
  have hc : IntKind.i64.wrap (1 + r) = 1 + r := IntWalk.i64_in _ (by omega)
  go_wp2_with fail
  have hA1 := At.new w (RV 3 1 (1 + r)) 23
  have hB1 : Below w.heap.size w (w.alloc (.cells (RV 3 1 (1 + r)).toArray 23)) := (Below.refl _ _).alloc (Nat.le_refl _) _
  change Calls _ _ _ (w.alloc (.cells (RV 3 1 (1 + r)).toArray 23)) _
  have hz1 : (w.alloc (.cells (RV 3 1 (1 + r)).toArray 23)).heap.size = w.heap.size + 1 := by simp
  generalize w.alloc (.cells (RV 3 1 (1 + r)).toArray 23) = w1 at hA1 hB1 hz1 ⊢
  refine (parts_any (1 + r) a len cap w1 (by omega) (by omega) (ha.next hB1) hl).mono ?_
  rintro e2 w2 ⟨v6, xs, rfl, hp2⟩
  have hA2 := hA1.below hp2.bel hA1.hi
  have hB2 := hB1.trans (hp2.bel.mono (by omega))
  have hown2 := hp2.own
  have hch := hp2.chain
  rw [hz1] at hown2
  clear hA1 hB1 hp2
  go_wp2_with (with_reducible refine hold_load 23 rfl ?_)
  refine load_rv hA2 rfl rfl rfl ?_
  go_wp2_with fail
  refine (begin_pv 3 1 (1 + r) _ (by omega) (by omega)).mono ?_
  rintro e3 w3 ⟨rfl, hb3⟩
  have hown3 := own_below hown2 hb3 (Nat.le_refl _)
  have hB3 := hB2.trans (hb3.mono hB2.size)
  clear hA2 hb3 hB2 hown2
  go_wp2_with (with_reducible refine hold_store 26 rfl ?_)
  refine store_pv (At.new w3 ZV 26) rfl rfl rfl rfl rfl ?_
  intro w4 hw4 hA4
  have hb4 : Below w3.heap.size w3 w4 := by
    rw [hw4]; exact below_cells (Nat.le_refl _) _ _ ((Below.refl _ _).alloc (Nat.le_refl _) _)
  have hinv0 : AInv w w3.heap.size (1 + r) xs v6 0 0 ⟨#[]⟩ w4 :=
    ⟨hB3.trans (hb4.mono hB3.size), ⟨0, begP 1 (1 + r), hA4, by
      have := PS.start hch
      have e : (fun j => decide (j < 0)) = fun _ : Nat => false := by funext j; simp
      rw [e]; exact this⟩, hB3.size, own_below hown3 hb4 (Nat.le_refl _), fun k hk => (own_block_lt hown3 k hk).2, rfl⟩
  have hn8 := Chain.len hch
  clear hw4 hA4 hb4 hown3 hB3 hz1
  generalize w3.heap.size = b at hinv0 ⊢
  go_upto_region 4 with (fail)
  go_wp2_with fail
  go_loopw [8, 9, 10] (fun v8 v9 v10 wr => ∃ (i : Nat) (er : Int) (W : ByteArray), v8 = .string W ∧ v9 = .int .i64 er ∧ v10 = .int .i64 i ∧ i ≤ xs.length ∧ AInv w b (1 + r) xs v6 i er W wr) (fun _ _ v _ => xs.length - (intOf v).toNat)
  case atStart => exact ⟨0, 0, ⟨#[]⟩, rfl, rfl, rfl, Nat.zero_le _, hinv0⟩
  case round =>
    obtain ⟨i, er, W, rfl, rfl, rfl, hi, hinv⟩ := hrel
    obtain ⟨a6, c6z, rfl⟩ : ∃ a6 c6, v6 = .slice a6 xs.length c6 := by
      rcases hinv.own.2 with ⟨rfl, h⟩ | ⟨g, c, cur, rfl, _⟩
      · exact ⟨_, _, by rw [h]⟩
      · exact ⟨_, _, rfl⟩
    by_cases hlt : i < xs.length
    · obtain ⟨p, hp⟩ : ∃ p, xs[i]? = some p := ⟨_, List.getElem?_eq_getElem hlt⟩
      obtain ⟨ea, P, hA, hPS⟩ := hinv.at_
      obtain ⟨g, rfl, _, hg0, hg1, k0, k1, k2, k3⟩ := part_cell hinv.own i p hp
      have hilt : (i : Int) < (xs.length : Int) := by omega
      have hP8 := hPS.size
      have hPm : P.size ≤ maxLen := by unfold maxLen; omega
      have hgood := (chain_at hPS.chain hp).2.2
      have hdm : p.dat.size ≤ maxLen := by
        unfold maxLen
        rcases hgood.2.2.2 with h | h
        · have := hgood.2.2.1; omega
        · rw [h.2]; exact Nat.zero_le _
      obtain ⟨er', ea', P', hpart, hPS'⟩ := hPS.step (lf := -(i : Int)) (by omega) (by omega) (by omega) hp
      have hcall := fun W0 => part_pv 3 1 (1 + r) (-(i : Int)) er ea P p.off p.cnt p.err p.dat W0 hPm hdm
      rw [hpart] at hcall
      have c0 := hA.cell 0 _ rfl
      have c1 := hA.cell 1 _ rfl
      have c2 := hA.cell 2 _ rfl
      have c3 := hA.cell 3 _ rfl
      have c4 := hA.cell 4 _ rfl
      have c5 := hA.cell 5 _ rfl
      have c6 := hA.cell 6 _ rfl
      have c7 := hA.cell 7 _ rfl
      have c8 := hA.cell 8 _ rfl
      have c9 := hA.cell 9 _ rfl
      have c10 := hA.cell 10 _ rfl
      have c11 := hA.cell 11 _ rfl
      have c12 := hA.cell 12 _ rfl
      have c13 := hA.cell 13 _ rfl
      have c14 := hA.cell 14 _ rfl
      have c15 := hA.cell 15 _ rfl
      have HA := Lib.hid hA
      have HI := Lib.hid hinv
      have HPS := Lib.hid hPS'
      have HP := Lib.hid hp
      have HPA := Lib.hid hpart
      have HPO := Lib.hid hPS
      have hbw := hA.hi
      clear hA hinv hPS hPS' hpart hinv0 hP8 hPm hdm hgood hp
      go_wp2_with fail
      go_still_tail 21, (by kernel_rfl)
      change wpList _ _ _ _ _ wr.drew
      have hA2 : At wr.drew b _ := HA.out.below (Below.drew (Below.refl _ _)) hbw
      go_wp2_with fail
      refine (hcall _).mono ?_
      rintro e5 w5 ⟨rfl, hb5⟩
      have hA5 := hA2.below hb5 hbw
      have hbb : Below wr.heap.size wr w5 := (Below.drew (Below.refl _ _)).trans hb5
      clear hA2 hb5 c0 c1 c2 c3 c4 c5 c6 c7 c8 c9 c10 c11 c12 c13 c14 c15 k0 k1 k2 k3
      go_wp2_with (with_reducible refine hold_store 26 rfl ?_)
      refine store_pv hA5 rfl rfl rfl rfl rfl ?_
      intro w6 hw6 hA6
      have hb6 : Below b wr w6 := by
        rw [hw6]; exact below_cells (Nat.le_refl _) _ _ (hbb.mono (Nat.le_of_lt hbw))
      have hown6 := own_lt HI.out.own hb6 HI.out.lt
      have hB6 := HI.out.bel.trans (hb6.mono HI.out.blo)
      clear hw6 hA5 hbb
      obtain ⟨g', hgg, _, hg0', hg1', k0, k1, k2, k3⟩ := part_cell hown6 i p HP.out
      obtain rfl : g = g' := by simpa using hgg
      have her := Lib.hid (partS_er HPA.out (by unfold fitB; simp; omega) (fun h => HPO.out.first HP.out (fun j hj => by simpa using hj) h))
      have hnew : Hid (∀ e, e = er' → AInv w b (1 + r) xs (.slice (some ⟨g, 0, none⟩) xs.length c6z) (i + 1) e (W ++ p.dat) w6) := by
        rintro e rfl
        refine ⟨hB6, ⟨ea', P', ?_, ?_⟩, HI.out.blo, hown6, HI.out.lt, ?_⟩
        · rw [show (-((i + 1 : Nat) : Int)) = -(i : Int) - 1 from by omega]; exact hA6
        · have e : (fun j => decide (j < i + 1)) = upd (fun j => decide (j < i)) i := by
            funext j; unfold upd
            by_cases h1 : j = i
            · subst h1; simp
            · simp [h1]; omega
          rw [e]; exact HPS.out
        · rw [bl_app, HI.out.W, dats_take HP.out]
      have hWs : W.size + p.dat.size ≤ 9223372036854775807 := by
        have h1 := bl_len W
        have h2 := bl_len p.dat
        rw [← h1, ← h2, HI.out.W, ← List.length_append, ← dats_take HP.out]
        have h3 := dats_len (xs := xs.take (i + 1)) (fun q hq => chain_good hch q (List.mem_of_mem_take hq))
        have h4 := List.length_take_le (i + 1) xs
        have h5 : (xs.take (i + 1)).length ≤ 8 := by rw [List.length_take]; omega
        omega
      clear hown6 hB6 hb6 hA6 hg0' hgg
      rcases Int.decEq er 0 with he0 | he0
      · have he1 : (er == 0) = false := by simpa using he0
        rw [if_neg he0] at her
        go_wp2_with fail
        go_roundw
        case rel => exact ⟨i + 1, er, W ++ p.dat, rfl, rfl, by go_num, by omega, hnew.out er her.out.symm⟩
        case measure => simp [intOf]; omega
      · have he1 : (er == 0) = true := by simpa using he0
        rw [if_pos he0] at her
        go_wp2_with fail
        go_roundw
        case rel => exact ⟨i + 1, p.err, W ++ p.dat, rfl, rfl, by go_num, by omega, hnew.out p.err her.out.symm⟩
        case measure => simp [intOf]; omega
    · obtain rfl : i = xs.length := by omega
      obtain ⟨ea, P, hA, hPS⟩ := hinv.at_
      have hB := hinv.bel
      have hsz : (er ≠ 0 ∧ ansS 1 er P = ⟨#[]⟩) ∨ (er = 0 ∧ ansS 1 er P = W) := by
        rcases Int.decEq er 0 with he0 | he0
        · left; exact ⟨he0, by unfold ansS; rw [if_neg (by simp [he0])]⟩
        · right
          refine ⟨he0, ?_⟩
          unfold ansS; rw [if_pos ⟨rfl, he0⟩]
          subst he0
          exact hPS.whole (fun j hj => by simpa using hj) (by rw [hinv.W, List.take_length])
      clear hinv hinv0 hPS
      rcases hsz with ⟨he0, hans⟩ | ⟨he0, hans⟩
      · have he1 : (er != 0) = true := by simpa using he0
        go_wp2_with (with_reducible refine hold_load 26 rfl ?_)
        refine load_pv hA rfl rfl rfl ?_
        go_wp2_with fail
        refine (answer_pv _ _ _ _ _ _ _ _ _).mono ?_
        rw [hans]
        rintro e8 w8 ⟨rfl, hb8⟩
        go_wp2_with fail
        refine (awake_any _).mono ?_
        rintro e9 w9 ⟨rfl, hb9⟩
        go_wp2_with fail
        go_ret
        exact RetW.mk rfl ((hB.trans (hb8.mono hB.size)).trans (hb9.mono (Nat.le_trans hB.size hb8.size)))
      · subst he0
        go_wp2_with (with_reducible refine hold_load 26 rfl ?_)
        refine load_pv hA rfl rfl rfl ?_
        go_wp2_with fail
        refine (answer_pv _ _ _ _ _ _ _ _ _).mono ?_
        rw [hans]
        rintro e8 w8 ⟨rfl, hb8⟩
        go_wp2_with fail
        refine (awake_any _).mono ?_
        rintro e9 w9 ⟨rfl, hb9⟩
        go_wp2_with fail
        go_ret
        exact RetW.mk rfl ((hB.trans (hb8.mono hB.size)).trans (hb9.mono (Nat.le_trans hB.size hb8.size)))
end Go.Proofs.Ytppkbifhhpakgaa
