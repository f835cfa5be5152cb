/- The pages that show a page of a file. -/
import Derived.Test.YtpnoilpdlnlebaaSh
namespace Go.Proofs.Ytpnoilpdlnlebaa
open Go.ChangeShapes Go.WideShapes Go.ChangeAt Go.RowKit

/-- a is the head of a row of numbers l, in a block from B on -/
def IRow (B : Nat) (a : Option Addr) (cap : Nat) (l : List Int) (w : World) : Prop :=
  (a = none ∧ l = [] ∧ cap = 0) ∨ ∃ g, a = some ⟨g, 0, none⟩ ∧ B ≤ g ∧ g < w.heap.size ∧ l.length ≤ cap ∧ cap ≤ maxLen ∧ ∀ j, j < l.length → w.cell? ⟨g, j, none⟩ = some (.int .i64 (l.getD j 0))
theorem IRow.below {B cap : Nat} {a : Option Addr} {l : List Int} {w w' : World} (h : IRow B a cap l w) (hb : Below w.heap.size w w') : IRow B a cap l w' := by
  rcases h with h | ⟨g, h1, h2, h3, h4, h5, h6⟩
  · exact Or.inl h
  · exact Or.inr ⟨g, h1, h2, Nat.lt_of_lt_of_le h3 hb.size, h4, h5, fun j hj => by rw [hb.cell (p := ⟨g, j, none⟩) h3]; exact h6 j hj⟩
theorem IRow.ofOwn {B n : Nat} {v : Value} {l : List Int} {w : World} (h : w.ownsRow B 3 1 v n (l.map (Value.int .i64))) : ∃ a cap, v = .slice a l.length cap ∧ n = l.length ∧ IRow B a cap l w := by
  have hl : n = l.length := by have := h.1; simp at this; omega
  subst hl
  rcases h.2 with ⟨hv, hn⟩ | ⟨g, cap, cur, hv, _, _, hc1, hc2, _⟩
  · refine ⟨none, 0, ?_, rfl, Or.inl ⟨rfl, List.length_eq_zero_iff.1 hn, rfl⟩⟩
    rw [hv, hn]
  · refine ⟨some ⟨g, 0, none⟩, cap, hv, rfl, Or.inr ⟨g, rfl, (h.lt g (by rw [hv]; rfl)).1, (h.lt g (by rw [hv]; rfl)).2, hc1, hc2, ?_⟩⟩
    intro j hj
    have := h.cells (g := g) (by rw [hv]; rfl) j (.int .i64 (l.getD j 0)) (by simp [List.getD, hj])
    rw [Addr.add_lit] at this
    simpa using this
theorem int_info : (Try.prog.info? 3).map (fun i => (i.zero, i.size, i.bytes)) = some (some (.int .i64 0), 1, 8) := by kernel_rfl
theorem cell_after (w : World) (A : Obj) (v : Value) (T : TypeId) (j : Nat) (u : Value) (hj : [v][j]? = some u) : ((w.alloc A).alloc (.cells #[v] T)).cell? ((⟨w.heap.size + 1, 0, none⟩ : Addr).add j) = some u := by
  have h0 : j = 0 := by
    have := (List.getElem?_eq_some_iff.1 hj).1
    simpa using this
  subst h0
  have hu : v = u := by simpa using hj
  subst hu
  rw [Addr.add_lit]
  have : ((w.alloc A).alloc (.cells #[v] T)).heap[w.heap.size + 1]? = some (.cells #[v] T) := by
    show ((w.heap.push A).push (.cells #[v] T))[w.heap.size + 1]? = _
    rw [Array.getElem?_push, if_pos (by simp)]
  simp only [World.cell?]
  rw [this]
  rfl
def showB (f p : Int) (a : Ar) : Bool := decide (a.fi = f ∧ a.pg ≤ p ∧ p < a.pg + a.cn)
def shownTo (l : List Ar) (f p : Int) (k : Nat) : List Int := ((l.take k).filter (showB f p)).map fun a => a.st + p - a.pg
def shownV (l : List Ar) (f p : Int) : List Int := if checkV l = true then shownTo l f p l.length else []
theorem shownTo_succ (l : List Ar) (f p : Int) (k : Nat) (hk : k < l.length) : shownTo l f p (k + 1) = if showB f p (l.getD k Ar.zero) = true then shownTo l f p k ++ [(l.getD k Ar.zero).st + p - (l.getD k Ar.zero).pg] else shownTo l f p k := by
  unfold shownTo
  rw [List.take_succ_eq_append_getElem hk, List.filter_append, List.map_append, show l.getD k Ar.zero = l[k] from by simp [List.getD, hk]]
  split
  · rename_i h; simp [h]
  · rename_i h; simp [h]
theorem shownTo_len (l : List Ar) (f p : Int) (k : Nat) : (shownTo l f p k).length ≤ k := by
  unfold shownTo
  rw [List.length_map]
  exact Nat.le_trans (List.length_filter_le _ _) (by rw [List.length_take]; omega)

set_option maxHeartbeats 4000000 in
theorem shown_any (B : Nat) (a : Option Addr) (l : List Ar) (cap : Nat) (f p : Int) (w : World) (h : ARow B a cap l w) (hl : l.length ≤ 100) (hp0 : -1000 ≤ p) (hp1 : p ≤ 1000) :
    Calls Try.prog 18 #[.slice a l.length cap, .int .i64 f, .int .i64 p] w fun e w' => ∃ b c, e = .returned (.slice b (shownV l f p).length c) ∧ IRow w.heap.size b c (shownV l f p) w' ∧ Below w.heap.size w w' := by
  have HA : Hid (∀ W, Below w.heap.size w W → ∀ j, j < l.length → ∃ g, a = some ⟨g, 0, none⟩ ∧ g < W.heap.size ∧ (l.length : Int) ≤ cap ∧ Cel W g (j * 5) (l.getD j Ar.zero)) := by
    intro W hb j hj
    obtain ⟨g, h1, h2, h3, h4, h5, h6⟩ := (h.below hb).at (by omega)
    exact ⟨g, h1, h3, by omega, h6 j hj⟩
  have HC := Lib.hid (check_any B a l cap w h hl)
  have HR : Hid (checkV l = true → ∀ j, j < l.length → 0 ≤ (l.getD j Ar.zero).st ∧ (l.getD j Ar.zero).st ≤ 64 ∧ 1 ≤ (l.getD j Ar.zero).cn ∧ 0 ≤ (l.getD j Ar.zero).pg ∧ (l.getD j Ar.zero).pg + (l.getD j Ar.zero).cn ≤ 8) := fun hc j hj => by
    have := rightB_iff.1 (check_right hc j hj).1
    omega
  have HV : Hid (checkV l = true → shownV l f p = shownTo l f p l.length) := fun hc => by unfold shownV; rw [if_pos hc]
  have HN : Hid (checkV l = false → shownV l f p = []) := fun hc => by unfold shownV; rw [hc]; rfl
  clear h
  obtain ⟨i0, hi, hz0, hz1, hz2⟩ := info_parts int_info
  go_enter Try.func18, Try.ntmps18
  go_wp2_with fail
  refine HC.out.mono ?_; rintro e w1 ⟨rfl, hb⟩
  have HB := Lib.hid hb
  clear hb HC
  cases hcv : checkV l with
  | false =>
    have hv := HN.out hcv
    go_wp2_with fail
    go_ret
    exact ⟨none, 0, by rw [hv]; rfl, by rw [hv]; exact Or.inl ⟨rfl, rfl, rfl⟩, HB.out⟩
  | true =>
    have HR2 := Lib.hid (HR.out hcv)
    have HV2 := Lib.hid (HV.out hcv)
    clear HR HV HN hcv
    go_wp2_with fail
    go_loopw [7, 15] (fun v7 v15 wr => ∃ k : Nat, k ≤ l.length ∧ v15 = .int .i64 k ∧ Hid (Below w.heap.size w wr) ∧ Hid (wr.ownsRow w.heap.size 3 1 v7 (shownTo l f p k).length ((shownTo l f p k).map (Value.int .i64)))) (fun _ v15 _ => 200 - (intOf v15).toNat)
    case atStart => exact ⟨0, Nat.zero_le _, rfl, HB, World.ownsRow_nil _ _ _ _⟩
    case round =>
      clear HB
      obtain ⟨k, hk, rfl, HB, HO⟩ := hrel
      by_cases hlt : k < l.length
      · have hlt' : (k : Int) < (l.length : Int) := by omega
        obtain ⟨g, rfl, hg, hcap, hcel⟩ := HA.out _ HB.out k hlt
        obtain ⟨e1, e2, e3, e4, e5⟩ := HR2.out k hlt
        have hs := shownTo_succ l f p k hlt
        have hsl := shownTo_len l f p k
        clear HA
        generalize l.getD k Ar.zero = e at *
        obtain ⟨s, c, f', q, wb⟩ := e
        simp only at e1 e2 e3 e4 e5 hs
        obtain ⟨k0, k1, k2, k3, k4⟩ := hcel
        simp only at k0 k1 k2 k3 k4
        have hsb : showB f p ⟨s, c, f', q, wb⟩ = decide (f' = f ∧ q ≤ p ∧ p < q + c) := rfl
        rw [hsb] at hs
        have HS := Lib.hid hs
        clear hs hsb
        have hw1 : IntKind.i64.wrap (q + c) = q + c := IntWalk.i64_in _ (by omega)
        have hw2 : IntKind.i64.wrap (s + p) = s + p := IntWalk.i64_in _ (by omega)
        have hw3 : IntKind.i64.wrap (s + p - q) = s + p - q := IntWalk.i64_in _ (by omega)
        have HB2 := Lib.hid (HB.out.alloc HB.out.size (Obj.cells #[Value.int IntKind.i64 s, Value.int IntKind.i64 c, Value.int IntKind.i64 f', Value.int IntKind.i64 q, Value.bool wb] 30))
        have hbs := HB.out.size
        by_cases hc : f' = f ∧ q ≤ p ∧ p < q + c
        · rw [decide_eq_true hc, if_pos rfl] at HS
          obtain ⟨hc1, hc2, hc3⟩ := hc
          subst hc1
          generalize shownTo l f' p k = L at *
          go_wp2_with (at_builtin; refine wpList_append_own _ rfl _ _ 22 rfl w.heap.size 3 i0 (.int .i64 0) 1 8 Try.underlying22 hi hz0 hz1 hz2 rfl (by decide) _ _ _ rfl ((HO.out.alloc _).alloc _) ⟨wr.heap.size + 1, 0, none⟩ 1 1 [.int .i64 (s + p - q)] rfl rfl ?c1 ?c2 ?c3 ?c4 ?c5 ?_)
          case c1 => intro j u hj; exact cell_after _ _ _ _ _ _ hj
          case c2 => intro u hu; simp at hu; subst hu; rfl
          case c3 => unfold maxLen; omega
          case c4 => omega
          case c5 => simp; omega
          intro v' w' hown' hgrow _
          have HB3 := Lib.hid (((HB2.out.alloc HB2.out.size (Obj.cells #[Value.int IntKind.i64 (s + p - q)] 3)).grown hgrow (by simp; omega) (fun x hx => (HO.out.lt x hx).1)))
          have HO3 : Hid (w'.ownsRow w.heap.size 3 1 v' (L ++ [s + p - q]).length ((L ++ [s + p - q]).map (Value.int .i64))) := by
            unfold Hid
            rw [List.map_append, List.length_append]
            exact hown'
          clear hgrow hown'
          go_wp2_with fail
          go_roundw
          case rel => exact ⟨k + 1, by omega, by go_num, HB3, by rw [HS.out]; exact HO3⟩
          case measure => simp [intOf]; omega
        · rw [decide_eq_false hc, if_neg (by simp)] at HS
          have HCN := Lib.hid hc
          clear hc
          go_wp2_with fail
          all_goals
            first
            | (exfalso; have := HCN.out; omega)
            | (go_roundw
               case rel => exact ⟨k + 1, by omega, by go_num, HB.out.alloc HB.out.size _, by rw [HS.out]; exact HO.out.alloc _⟩
               case measure => simp [intOf]; omega)
      · obtain rfl : k = l.length := by omega
        obtain ⟨b, cc, rfl, hn, hr⟩ := IRow.ofOwn HO.out
        go_wp2_with fail
        go_ret
        exact ⟨b, cc, by rw [HV2.out]; rfl, by rw [HV2.out]; exact hr, HB.out⟩
end Go.Proofs.Ytpnoilpdlnlebaa
