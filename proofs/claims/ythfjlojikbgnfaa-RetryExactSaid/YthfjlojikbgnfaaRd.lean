/- retry.Ready. -/
import Derived.Test.YthfjlojikbgnfaaAu
namespace Go.Proofs.Ythfjlojikbgnfaa
open Go.ChangeShapes Go.WideShapes Go.ChangeAt Go.RowKit

/-- one bunch more in a row of one's own: the row stays where it is, or goes to a new block -/
theorem append_one (w : World) (B : Nat) (a : Option Addr) (cap : Nat) (l : List Ar) (x : Ar) (vb : Nat) (ho : w.ownsRow B 40 11 (.slice a l.length cap) l.length (flat l)) (hv : w.rangeAt vb 0 x.cells) (hl : l.length ≤ 1000) (hB : B ≤ w.heap.size) :
    ∃ a' c' w', (Builtin.append_ #[34, 34] 34 #[.slice a l.length cap, .slice (some ⟨vb, 0, none⟩) 1 1]).run Try.prog w = .ok (.slice a' (l.length + 1) c') w' ∧ w'.ownsRow B 40 11 (.slice a' (l.length + 1) c') (l.length + 1) (flat (l ++ [x])) ∧
      (∀ k, k < w.heap.size → (∀ q, a = some q → q.block ≠ k) → w'.heap[k]? = w.heap[k]?) ∧ (∀ q, a' = some q → (∃ p, a = some p ∧ p.block = q.block) ∨ w.heap.size ≤ q.block) ∧ Below B w w' := by
  obtain ⟨i0, hi, hz0, hz1, hz2⟩ := info_parts area_info
  have hc : ∀ j u, x.cells[j]? = some u → w.cell? ((⟨vb, 0, none⟩ : Addr).add j) = some u := fun j u hj => by rw [Addr.add_lit]; exact hv j u hj
  obtain ⟨v', w', hr, how, hg, _⟩ := run_append_own (P := Try.prog) w B 34 34 40 i0 _ 11 112 Try.underlying34 hi hz0 hz1 hz2 rfl (by decide) _ _ _ ho ⟨vb, 0, none⟩ 1 1 x.cells rfl hc (oneC x) (by unfold maxLen; omega) (by omega) hB
  have he : flat l ++ x.cells = flat (l ++ [x]) := by rw [flat_append, flat_one]
  rw [he, show l.length + 1 = (l ++ [x]).length from by simp] at how
  obtain ⟨a', c', rfl, _, _, _⟩ := ARow.ofOwn how
  rw [show (l ++ [x]).length = l.length + 1 from by simp] at how hr
  refine ⟨a', c', w', hr, how, fun k hk hq => hg.block k hk ?_, fun q hq => ?_, (Below.refl B w).grown hg hB (fun k hk => (ho.lt k hk).1)⟩
  · intro e
    cases a with
    | none => cases e
    | some q => cases e; exact hq q rfl rfl
  · subst hq
    rcases ho.2 with ⟨hn, hn0⟩ | ⟨g, cc, cur, hgv, _, hgg, h1, h2, h3, _⟩
    · right
      have hl0 := List.length_eq_zero_iff.1 hn0
      subst hl0
      simp only [Value.slice.injEq] at hn
      obtain ⟨rfl, _, rfl⟩ := hn
      obtain ⟨v2, w2, hr2, how2, _, _⟩ := run_append_own (P := Try.prog) w w.heap.size 34 34 40 i0 _ 11 112 Try.underlying34 hi hz0 hz1 hz2 rfl (by decide) (.slice none 0 0) 0 [] (World.ownsRow_nil w _ 40 11) ⟨vb, 0, none⟩ 1 1 x.cells rfl hc (oneC x) (by unfold maxLen; omega) (by omega) (Nat.le_refl _)
      have e2 := hr2.symm.trans hr
      cases e2
      exact (how2.lt q.block rfl).1
    · cases hgv
      by_cases hroom : l.length + 1 ≤ cap
      · left
        have hr2 := run_append_room (P := Try.prog) w 34 34 40 i0 Try.underlying34 hi g l.length cap cur hgg ⟨vb, 0, none⟩ 1 1 x.cells (by rw [hz1]; rfl) hc (oneC x) hroom (by rw [hz1, h3]; show l.length * 11 + 11 ≤ _; omega)
        have e2 := hr2.symm.trans hr
        simp only [Result.ok.injEq, Value.slice.injEq, Option.some.injEq] at e2
        exact ⟨_, rfl, by rw [← e2.1.1]⟩
      · right
        have hr2 := run_append_grow (P := Try.prog) w 34 34 40 i0 _ Try.underlying34 hi hz0 ⟨g, 0, none⟩ l.length cap (flat l) (by rw [hz1]; exact flat_len l) (ho.cells (g := g) rfl) ⟨vb, 0, none⟩ 1 1 x.cells (by rw [hz1]; rfl) hc (by omega) (by omega) (by rw [hz2]; exact growslice_fits (by omega) (by omega))
        have e2 := hr2.symm.trans hr
        simp only [Result.ok.injEq, Value.slice.injEq, Option.some.injEq] at e2
        rw [← e2.1.1]
        exact Nat.le_refl _
theorem own_same {w w' : World} {B : Nat} {e : TypeId} {size n : Nat} {v : Value} {xs : List Value} (h : w.ownsRow B e size v n xs) (hs : ∀ g, v.ownBlock = some g → w'.heap[g]? = w.heap[g]?) : w'.ownsRow B e size v n xs := by
  refine ⟨h.1, ?_⟩
  rcases h.2 with hn | ⟨g, cap, cur, rfl, hg, hgg, rest⟩
  · exact Or.inl hn
  · exact Or.inr ⟨g, cap, cur, rfl, hg, by rw [hs g rfl]; exact hgg, rest⟩
/-- a bunch has to wait -/
def lateB (now : Int) (x : Ar) : Bool := decide (now < x.tk)
theorem filter_succ (f : Ar → Bool) (l : List Ar) (k : Nat) (hk : k < l.length) : (l.take (k + 1)).filter f = if f (l.getD k Ar.zero) = true then (l.take k).filter f ++ [l.getD k Ar.zero] else (l.take k).filter f := by
  rw [List.take_add_one, List.filter_append, getD_get hk, List.getElem?_eq_getElem hk]
  cases h : f l[k] <;> simp [h]
/-- what Ready answers -/
def ReadyPost (l : List Ar) (now : Int) (w : World) (e : Ending) (w' : World) : Prop :=
  ∃ a1 c1 l1 a2 c2 l2, e = .returned (.tuple #[.slice a1 l1.length c1, .slice a2 l2.length c2]) ∧ l1.map key = (l.map key).filter (lateB now) ∧ l2.map key = (l.map key).filter (fun x => !lateB now x) ∧
    ARow w' a1 c1 l1 ∧ ARow w' a2 c2 l2 ∧ (∀ x ∈ l1, MemOK w' x) ∧ (∀ x ∈ l2, MemOK w' x) ∧ Below w.heap.size w w'
theorem filter_key (f : Ar → Bool) (hf : ∀ x, f (key x) = f x) (l : List Ar) : (l.filter f).map key = (l.map key).filter f := by
  induction l with
  | nil => rfl
  | cons y r ih =>
    rw [List.map_cons, List.filter_cons, List.filter_cons, hf]
    split
    · rw [List.map_cons, ih]
    · exact ih
set_option maxHeartbeats 400000 in
theorem ready_any (a : Option Addr) (l : List Ar) (cap : Nat) (now : Int) (w : World) (h : ARow w a cap l) (hm : ∀ x ∈ l, MemOK w x) (hl : l.length ≤ 100) :
    Calls Try.prog 12 #[.slice a l.length cap, .int .i64 now] w (ReadyPost l now w) := by
  have HE := Lib.hid (each_any a l cap w h hm (by omega))
  clear h hm
  go_enter Try.func12, Try.ntmps12
  go_wp2_with fail
  refine HE.out.mono ?_; rintro e w1 ⟨aL, cL, L, rfl, hky, how, hme, hb⟩
  have hLl : L.length = l.length := by have := congrArg List.length hky; simpa using this
  have HKY := Lib.hid hky
  have HME := Lib.hid hme
  have HB := Lib.hid hb
  have HLL := Lib.hid hLl
  have HRW : Hid (∀ W, Below w1.heap.size w1 W → ∀ j, j < l.length → ∃ g, aL = some ⟨g, 0, none⟩ ∧ (l.length : Int) ≤ cL ∧ W.rangeAt g (j * 11) (L.getD j Ar.zero).cells) := by
    intro W hW j hj
    rcases how.2 with ⟨_, h0⟩ | ⟨g, c, cur, hv, _⟩
    · omega
    · cases hv
      refine ⟨g, rfl, (own_lt how).2.2.1, own_range (ownsRow_below how hW) j (by omega)⟩
  clear hky how hme hb hLl HE
  go_wp2_with fail
  go_loopw [4, 5, 11] (fun v4 v5 v11 wr => ∃ (k : Nat) (l1 l2 : List Ar) (a1 : Option Addr) (c1 : Nat) (a2 : Option Addr) (c2 : Nat), k ≤ l.length ∧ v4 = .slice a1 l1.length c1 ∧ v5 = .slice a2 l2.length c2 ∧ v11 = .int .i64 k ∧ Hid (l1 = (L.take k).filter (lateB now)) ∧ Hid (l2 = (L.take k).filter (fun x => !lateB now x)) ∧
    Hid (wr.ownsRow w1.heap.size 40 11 (.slice a1 l1.length c1) l1.length (flat l1)) ∧ Hid (wr.ownsRow w1.heap.size 40 11 (.slice a2 l2.length c2) l2.length (flat l2)) ∧ Hid (∀ q p, a1 = some q → a2 = some p → q.block ≠ p.block) ∧ Hid (Below w1.heap.size w1 wr)) (fun _ _ v11 _ => 20000 - (intOf v11).toNat)
  case atStart => exact ⟨0, [], [], none, 0, none, 0, Nat.zero_le _, rfl, rfl, rfl, rfl, rfl, World.ownsRow_nil _ _ _ _, World.ownsRow_nil _ _ _ _, (fun q _ hq => by cases hq), Below.refl _ _⟩
  case round =>
    obtain ⟨k, l1, l2, a1, c1, a2, c2, hk, rfl, rfl, rfl, HF1, HF2, HO1, HO2, HSP, HBel⟩ := hrel
    by_cases hlt : k < l.length
    · have hlt' : (k : Int) < (l.length : Int) := by omega
      obtain ⟨g, rfl, hcap, hrow⟩ := HRW.out wr HBel.out k hlt
      have HLE : Hid (l1.length ≤ 100 ∧ l2.length ≤ 100) := by
        have e1 := congrArg List.length HF1.out
        have e2 := congrArg List.length HF2.out
        have f1 := List.length_filter_le (lateB now) (L.take k)
        have f2 := List.length_filter_le (fun x => !lateB now x) (L.take k)
        have f3 := List.length_take_le k L
        exact ⟨by omega, by omega⟩
      have hs1 := filter_succ (lateB now) L k (by have := HLL.out; omega)
      have hs2 := filter_succ (fun x => !lateB now x) L k (by have := HLL.out; omega)
      rw [← HF1.out] at hs1
      rw [← HF2.out] at hs2
      generalize L.getD k Ar.zero = x at *
      have HROW := Lib.hid hrow
      obtain ⟨W0, hW0⟩ : ∃ W0, W0 = wr.alloc (Obj.cells ZL.toArray 40) := ⟨_, rfl⟩
      have HA0 : Hid (At W0 wr.heap.size ZL) := by rw [hW0]; exact At.new wr ZL 40
      have HB0 : Hid (Below wr.heap.size wr W0) := by rw [hW0]; exact (Below.refl _ _).alloc (Nat.le_refl _) _
      have HS0 : Hid (W0.heap.size = wr.heap.size + 1) := by rw [hW0]; simp [Hid]
      simp only [ZL] at hW0
      clear hrow
      go_wp2_with (with_reducible refine hold_load 40 rfl ?_)
      refine load_ato (k * 11) HROW.out Try.underlying40 rfl size40 rfl rfl rfl ?_
      go_wp2_with (with_reducible refine hold_store 40 rfl ?_)
      rw [← hW0]
      clear hW0
      refine store_ato 0 x.cells HA0.out.t rfl size40 (all_oneCell_toArray (oneC x)) rfl rfl rfl rfl ?_
      intro W2 hW2
      have HA2 : Hid (At W2 wr.heap.size x.cells) := hW2 ▸ HA0.out.store x.cells rfl
      have HB2 : Hid (Below wr.heap.size wr W2) := by rw [hW2]; exact below_cells (Nat.le_refl _) _ _ HB0.out
      have HS2 : Hid (W2.heap.size = wr.heap.size + 1) := by rw [hW2, size_cells]; exact HS0.out
      clear hW2 HA0 HB0 HS0 HROW
      have hc9 : W2.cell? ⟨wr.heap.size, 9, none⟩ = some (.int .i64 x.tk) := HA2.out.cell 9 _ rfl
      obtain ⟨W3, hW3⟩ : ∃ W3, W3 = W2.alloc (Obj.cells x.cells.toArray 40) := ⟨_, rfl⟩
      have HB3 : Hid (Below wr.heap.size wr W3) := by rw [hW3]; exact HB2.out.alloc (by have := HS2.out; omega) _
      have HV3 : Hid (W3.rangeAt W2.heap.size 0 x.cells) := by rw [hW3]; exact (At.new W2 x.cells 40).r
      simp only [Ar.cells] at hW3
      by_cases hlate : now < x.tk
      · have hd : lateB now x = true := decide_eq_true hlate
        rw [if_pos hd] at hs1
        rw [if_neg (by rw [hd]; simp)] at hs2
        have HE1 : Hid (l1 ++ [x] = (L.take (k + 1)).filter (lateB now)) := hs1.symm
        have HE2 : Hid (l2 = (L.take (k + 1)).filter (fun x => !lateB now x)) := hs2.symm
        clear hs1 hs2 hd
        have HO3 : Hid (W3.ownsRow w1.heap.size 40 11 (.slice a1 l1.length c1) l1.length (flat l1)) := ownsRow_below HO1.out HB3.out
        have HP3 : Hid (W3.ownsRow w1.heap.size 40 11 (.slice a2 l2.length c2) l2.length (flat l2)) := ownsRow_below HO2.out HB3.out
        obtain ⟨aN, cN, wN, hrun, hown, hfr, hwh, hbN⟩ := append_one W3 w1.heap.size a1 c1 l1 x W2.heap.size HO3.out HV3.out (by have := HLE.out; omega) (by have := HBel.out.size; have := HB3.out.size; omega)
        have HAP := Lib.hid hrun
        have HON : Hid (wN.ownsRow w1.heap.size 40 11 (.slice aN (l1 ++ [x]).length cN) (l1 ++ [x]).length (flat (l1 ++ [x]))) := by rw [show (l1 ++ [x]).length = l1.length + 1 from by simp]; exact hown
        have HLEN : Hid ((l1 ++ [x]).length = l1.length + 1) := by simp [Hid]
        have HOO : Hid (wN.ownsRow w1.heap.size 40 11 (.slice a2 l2.length c2) l2.length (flat l2)) := own_same HP3.out fun g hg => hfr g (HP3.out.lt g hg).2 (by
          intro q hq
          cases a2 with
          | none => cases hg
          | some p => cases hg; exact HSP.out q p hq rfl)
        have HSN : Hid (∀ q p, aN = some q → a2 = some p → q.block ≠ p.block) := by
          intro q p hq hp
          have hpl : p.block < W3.heap.size := (HP3.out.lt p.block (by rw [hp]; rfl)).2
          rcases hwh q hq with ⟨p0, hp0, hpe⟩ | hge
          · rw [← hpe]; exact HSP.out p0 p hp0 hp
          · omega
        have HBN : Hid (Below w1.heap.size w1 wN) := (HBel.out.trans (HB3.out.mono HBel.out.size)).trans hbN
        clear hrun hown hfr hwh hbN
        go_wp2_with (with_reducible refine hold_load 40 rfl ?_)
        refine load_ato 0 HA2.out.r Try.underlying40 rfl size40 rfl rfl rfl ?_
        simp only [Ar.cells]
        go_wp2_with (at_builtin; rw [← hW3]; clear hW3; refine Lib.wpList_append_run _ rfl _ _ _ _ rfl _ _ rfl rfl _ _ HAP.out ?_)
        clear HAP
        go_wp2_with fail
        go_roundw
        case rel => exact ⟨k + 1, l1 ++ [x], l2, aN, cN, a2, c2, by omega, by rw [HLEN.out], rfl, by go_num, HE1, HE2, HON, HOO, HSN, HBN⟩
        case measure => simp [intOf]; omega
      · have hd : lateB now x = false := decide_eq_false hlate
        rw [if_neg (by rw [hd]; simp)] at hs1
        rw [if_pos (by rw [hd]; rfl)] at hs2
        have HE1 : Hid (l1 = (L.take (k + 1)).filter (lateB now)) := hs1.symm
        have HE2 : Hid (l2 ++ [x] = (L.take (k + 1)).filter (fun x => !lateB now x)) := hs2.symm
        clear hs1 hs2 hd
        have HO3 : Hid (W3.ownsRow w1.heap.size 40 11 (.slice a2 l2.length c2) l2.length (flat l2)) := ownsRow_below HO2.out HB3.out
        have HP3 : Hid (W3.ownsRow w1.heap.size 40 11 (.slice a1 l1.length c1) l1.length (flat l1)) := ownsRow_below HO1.out HB3.out
        obtain ⟨aN, cN, wN, hrun, hown, hfr, hwh, hbN⟩ := append_one W3 w1.heap.size a2 c2 l2 x W2.heap.size HO3.out HV3.out (by have := HLE.out; omega) (by have := HBel.out.size; have := HB3.out.size; omega)
        have HAP := Lib.hid hrun
        have HON : Hid (wN.ownsRow w1.heap.size 40 11 (.slice aN (l2 ++ [x]).length cN) (l2 ++ [x]).length (flat (l2 ++ [x]))) := by rw [show (l2 ++ [x]).length = l2.length + 1 from by simp]; exact hown
        have HLEN : Hid ((l2 ++ [x]).length = l2.length + 1) := by simp [Hid]
        have HOO : Hid (wN.ownsRow w1.heap.size 40 11 (.slice a1 l1.length c1) l1.length (flat l1)) := own_same HP3.out fun g hg => hfr g (HP3.out.lt g hg).2 (by
          intro q hq
          cases a1 with
          | none => cases hg
          | some p => cases hg; exact fun e => HSP.out p q rfl hq e.symm)
        have HSN : Hid (∀ q p, a1 = some q → aN = some p → q.block ≠ p.block) := by
          intro q p hq hp
          have hql : q.block < W3.heap.size := (HP3.out.lt q.block (by rw [hq]; rfl)).2
          rcases hwh p hp with ⟨p0, hp0, hpe⟩ | hge
          · rw [← hpe]; exact HSP.out q p0 hq hp0
          · omega
        have HBN : Hid (Below w1.heap.size w1 wN) := (HBel.out.trans (HB3.out.mono HBel.out.size)).trans hbN
        clear hrun hown hfr hwh hbN
        go_wp2_with (with_reducible refine hold_load 40 rfl ?_)
        refine load_ato 0 HA2.out.r Try.underlying40 rfl size40 rfl rfl rfl ?_
        simp only [Ar.cells]
        go_wp2_with (at_builtin; rw [← hW3]; clear hW3; refine Lib.wpList_append_run _ rfl _ _ _ _ rfl _ _ rfl rfl _ _ HAP.out ?_)
        clear HAP
        go_wp2_with fail
        go_roundw
        case rel => exact ⟨k + 1, l1, l2 ++ [x], a1, c1, aN, cN, by omega, rfl, by rw [HLEN.out], by go_num, HE1, HE2, HOO, HON, HSN, HBN⟩
        case measure => simp [intOf]; omega
    · obtain rfl : k = l.length := by omega
      have hLt : L.take l.length = L := List.take_of_length_le (by have := HLL.out; omega)
      have HE1 : Hid (l1.map key = (l.map key).filter (lateB now)) := by
        rw [HF1.out, hLt, ← HKY.out]; exact filter_key _ (fun _ => rfl) L
      have HE2 : Hid (l2.map key = (l.map key).filter (fun x => !lateB now x)) := by
        rw [HF2.out, hLt, ← HKY.out]; exact filter_key _ (fun _ => rfl) L
      have HM1 : Hid (∀ x ∈ l1, MemOK wr x) := fun x hx => ((HME.out x (by rw [HF1.out, hLt] at hx; exact (List.mem_filter.1 hx).1)).1).below HBel.out
      have HM2 : Hid (∀ x ∈ l2, MemOK wr x) := fun x hx => ((HME.out x (by rw [HF2.out, hLt] at hx; exact (List.mem_filter.1 hx).1)).1).below HBel.out
      obtain ⟨b1, d1, e1, _, r1, _⟩ := ARow.ofOwn HO1.out
      obtain ⟨b2, d2, e2, _, r2, _⟩ := ARow.ofOwn HO2.out
      simp only [Value.slice.injEq] at e1 e2
      obtain ⟨rfl, _, rfl⟩ := e1
      obtain ⟨rfl, _, rfl⟩ := e2
      have HR1 := Lib.hid r1
      have HR2 := Lib.hid r2
      clear r1 r2 hLt HF1 HF2 HO1 HO2 HME
      go_wp2_with fail
      go_ret2
      exact ⟨_, _, l1, _, _, l2, rfl, HE1.out, HE2.out, HR1.out, HR2.out, HM1.out, HM2.out, HB.out.trans (HBel.out.mono HB.out.size)⟩
end Go.Proofs.Ythfjlojikbgnfaa
