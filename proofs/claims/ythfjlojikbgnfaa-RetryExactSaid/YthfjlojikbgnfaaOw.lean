/- Rows of one's own: elements read and stored; copies.Each. -/
import Derived.Test.YthfjlojikbgnfaaCl
namespace Go.Proofs.Ythfjlojikbgnfaa
open Go.ChangeShapes Go.WideShapes Go.ChangeAt Go.RowKit

def setL (xs : List Value) (o : Nat) : List Value → List Value
  | [] => xs
  | v :: vs => setL (xs.set o v) (o + 1) vs
theorem setL_mid (A C : List Value) : ∀ (vs B : List Value), B.length = vs.length → setL (A ++ B ++ C) A.length vs = A ++ vs ++ C := by
  intro vs
  induction vs generalizing A with
  | nil => intro B h; have := List.length_eq_zero_iff.1 h; subst this; rfl
  | cons v vs ih =>
    intro B h
    cases B with
    | nil => simp at h
    | cons b B =>
      have h2 := ih (A ++ [v]) B (by simpa using h)
      simp only [setL]
      rw [show (A ++ b :: B ++ C).set A.length v = A ++ [v] ++ B ++ C from by simp, show A.length + 1 = (A ++ [v]).length from by simp, h2]
      simp
theorem own_cells {B g n cap : Nat} : ∀ (vs : List Value) (o : Nat) {w : World} {xs : List Value}, w.ownsRow B 40 11 (.slice (some ⟨g, 0, none⟩) n cap) n xs → (w.setCells g o vs).ownsRow B 40 11 (.slice (some ⟨g, 0, none⟩) n cap) n (setL xs o vs)
  | [], _, _, _, h => h
  | v :: vs, o, _, _, h => own_cells vs (o + 1) (h.stored o v).1
theorem flat_set (l : List Ar) (i : Nat) (hi : i < l.length) (x : Ar) : setL (flat l) (i * 11) x.cells = flat (l.set i x) := by
  have h1 : l = l.take i ++ l[i] :: l.drop (i + 1) := by rw [List.getElem_cons_drop, List.take_append_drop]
  have h2 : l.set i x = l.take i ++ x :: l.drop (i + 1) := List.set_eq_take_append_cons_drop.trans (if_pos hi)
  have hl : (flat (l.take i)).length = i * 11 := by rw [flat_len, List.length_take]; congr 1; omega
  have e : ∀ y : Ar, flat (l.take i ++ y :: l.drop (i + 1)) = flat (l.take i) ++ y.cells ++ flat (l.drop (i + 1)) := fun y => by
    rw [flat_append, show y :: l.drop (i + 1) = [y] ++ l.drop (i + 1) from rfl, flat_append, flat_one, List.append_assoc]
  rw [h2, e]
  conv => lhs; arg 1; rw [h1, e]
  rw [← hl]
  exact setL_mid _ _ _ _ rfl
theorem own_put {w : World} {B g cap : Nat} {l : List Ar} (h : w.ownsRow B 40 11 (.slice (some ⟨g, 0, none⟩) l.length cap) l.length (flat l)) (i : Nat) (hi : i < l.length) (x : Ar) :
    (w.setCells g (i * 11) x.cells).ownsRow B 40 11 (.slice (some ⟨g, 0, none⟩) l.length cap) l.length (flat (l.set i x)) := by
  have := own_cells x.cells (i * 11) h
  rwa [flat_set l i hi x] at this
theorem own_range {w : World} {B g cap n : Nat} {l : List Ar} (h : w.ownsRow B 40 11 (.slice (some ⟨g, 0, none⟩) n cap) n (flat l)) (i : Nat) (hi : i < l.length) : w.rangeAt g (i * 11) (l.getD i Ar.zero).cells := by
  obtain ⟨a', c', he, hn, hr, _⟩ := ARow.ofOwn h
  simp only [Value.slice.injEq] at he
  obtain ⟨rfl, _, rfl⟩ := he
  obtain ⟨g2, o2, h1, _, _, _, h6⟩ := hr.at (by omega)
  cases h1
  have := h6 i hi
  rwa [Nat.zero_add] at this
theorem own_there {w : World} {B g cap n : Nat} {xs : List Value} (h : w.ownsRow B 40 11 (.slice (some ⟨g, 0, none⟩) n cap) n xs) (i : Nat) (hi : i < n) : w.there g (i * 11) 11 := by
  rcases h.2 with ⟨hv, _⟩ | ⟨g2, c2, cur, hv, _, hgg, h1, h2, h3, _⟩
  · cases hv
  · cases hv
    intro j hj
    have hlt : i * 11 + j < cur.size := by
      rw [h3]
      have : (i + 1) * 11 ≤ cap * 11 := Nat.mul_le_mul_right 11 (by omega)
      omega
    refine ⟨?_, ?_⟩
    · simp only [World.cell?, hgg]
      rw [Array.getElem?_eq_getElem hlt]; rfl
    · simp [World.frozen?, hgg]
theorem own_lt {w : World} {B g cap n : Nat} {xs : List Value} (h : w.ownsRow B 40 11 (.slice (some ⟨g, 0, none⟩) n cap) n xs) : B ≤ g ∧ g < w.heap.size ∧ (n : Int) ≤ cap ∧ (cap : Int) ≤ 9223372036854775807 := by
  have := h.lt g rfl
  rcases h.2 with ⟨hv, _⟩ | ⟨g2, c2, cur, hv, _, hgg, h1, h2, h3, _⟩
  · cases hv
  · cases hv
    unfold maxLen at h2
    exact ⟨this.1, this.2, by omega, by omega⟩

/-- what copies.Each answers: a row of its own whose bunches say what those of l say, with members of their own -/
def EachPost (l : List Ar) (w : World) (e : Ending) (w' : World) : Prop :=
  ∃ a c l', e = .returned (.slice a l.length c) ∧ l'.map key = l.map key ∧ w'.ownsRow w.heap.size 40 11 (.slice a l.length c) l.length (flat l') ∧ (∀ x ∈ l', MemOK w' x ∧ MemLo w.heap.size x ∧ ∀ q, a = some q → ∀ m, x.ma = some m → m.block ≠ q.block) ∧ Below w.heap.size w w'

set_option maxHeartbeats 4000000 in
theorem each_any (a : Option Addr) (l : List Ar) (cap : Nat) (w : World) (h : ARow w a cap l) (hm : ∀ x ∈ l, MemOK w x) (hl : l.length ≤ 10000) :
    Calls Try.prog 23 #[.slice a l.length cap, .func (.func 24) #[] #[]] w (EachPost l w) := by
  have HCL := Lib.hid (clone_any a l cap w h hl)
  have HM : Hid (∀ W, Below w.heap.size w W → ∀ x ∈ l, Calls Try.prog 24 #[arVal x] W fun e w' => ∃ q c, e = .returned (arVal (x.moved q c)) ∧ MemOK w' (x.moved q c) ∧ MemLo W.heap.size (x.moved q c) ∧ Below W.heap.size W w') := fun W hb x hx => later_any x W ((hm x hx).below hb)
  clear h hm
  go_enter Try.func23, Try.ntmps23
  go_wp2_with fail
  refine HCL.out.mono ?_; rintro e w1 ⟨v1, rfl, ho, hb⟩
  obtain ⟨a1, c1, rfl, _, _, _⟩ := ARow.ofOwn ho
  have HO := Lib.hid ho
  have HB := Lib.hid hb
  clear ho hb HCL
  go_wp2_with fail
  go_loopw [12] (fun v12 wr => ∃ (k : Nat) (l' : List Ar), k ≤ l.length ∧ v12 = .int .i64 k ∧ Hid (l'.length = l.length) ∧ Hid (l'.map key = l.map key) ∧ Hid (∀ j, k ≤ j → l'.getD j Ar.zero = l.getD j Ar.zero) ∧ Hid (Below w.heap.size w wr) ∧ Hid (w1.heap.size ≤ wr.heap.size) ∧ Hid (wr.ownsRow w.heap.size 40 11 (.slice a1 l.length c1) l.length (flat l')) ∧ Hid (∀ j, j < k → MemOK wr (l'.getD j Ar.zero) ∧ MemLo w1.heap.size (l'.getD j Ar.zero))) (fun v12 _ => 20000 - (intOf v12).toNat)
  case atStart => exact ⟨0, l, Nat.zero_le _, rfl, rfl, rfl, fun _ _ => rfl, HB, Nat.le_refl _, HO, fun j hj => absurd hj (Nat.not_lt_zero _)⟩
  case round =>
    obtain ⟨k, l', hk, rfl, HLN, HKY, HTL, HBel, HSZ, HOW, HMD⟩ := hrel
    by_cases hlt : k < l.length
    · have hlt' : (k : Int) < (l.length : Int) := by omega
      obtain ⟨g, rfl⟩ : ∃ g, a1 = some ⟨g, 0, none⟩ := by
        rcases HOW.out.2 with ⟨_, h0⟩ | ⟨g2, _, _, hv, _⟩
        · omega
        · cases hv; exact ⟨g2, rfl⟩
      obtain ⟨hg0, hg1, hcap, hcm⟩ := own_lt HOW.out
      have hgw : g < w1.heap.size := (own_lt HO.out).2.1
      have hxm : l.getD k Ar.zero ∈ l := by rw [getD_get hlt]; exact List.getElem_mem hlt
      have hrow : wr.rangeAt g (k * 11) (l.getD k Ar.zero).cells := by rw [← HTL.out k (Nat.le_refl _)]; exact own_range HOW.out k (by rw [HLN.out]; exact hlt)
      obtain ⟨x, hx⟩ : ∃ x, x = l.getD k Ar.zero := ⟨_, rfl⟩
      rw [← hx] at hxm hrow
      have HX := Lib.hid hx
      have HROW := Lib.hid hrow
      have HX2 : Hid (∀ W, Below w.heap.size w W → Calls Try.prog 24 #[.agg x.cells.toArray] W fun e w' => ∃ q c, e = .returned (.agg (x.moved q c).cells.toArray) ∧ MemOK w' (x.moved q c) ∧ MemLo W.heap.size (x.moved q c) ∧ Below W.heap.size W w') := fun W hb => HM.out W hb x hxm
      have HG : Hid (w.heap.size ≤ g ∧ g < wr.heap.size ∧ g < w1.heap.size) := ⟨hg0, hg1, hgw⟩
      obtain ⟨W0, hW0⟩ : ∃ W0, W0 = wr.alloc (Obj.cells ZL.toArray 40) := ⟨_, rfl⟩
      have HA0 : Hid (At W0 wr.heap.size ZL) := by rw [hW0]; exact At.new wr ZL 40
      have HB0 : Hid (Below wr.heap.size wr W0) := by rw [hW0]; exact (Below.refl _ _).alloc (Nat.le_refl _) _
      simp only [ZL] at hW0
      clear hx hxm hrow hg0 hg1 hgw HM HO
      go_wp2_with (with_reducible refine hold_load 40 rfl ?_)
      refine load_ato (k * 11) HROW.out Try.underlying40 rfl size40 rfl rfl rfl ?_
      go_wp2_with (with_reducible refine hold_store 40 rfl ?_)
      rw [← hW0]
      clear hW0
      refine store_ato 0 x.cells HA0.out.t rfl size40 (all_oneCell_toArray (oneC x)) rfl rfl rfl rfl ?_
      intro W2 hW2
      have HA2 : Hid (At W2 wr.heap.size x.cells) := hW2 ▸ HA0.out.store x.cells rfl
      have HB2 : Hid (Below wr.heap.size wr W2) := by rw [hW2]; exact below_cells (Nat.le_refl _) _ _ HB0.out
      clear hW2 HA0 HB0
      go_wp2_with (with_reducible refine hold_load 40 rfl ?_)
      refine load_ato 0 HA2.out.r Try.underlying40 rfl size40 rfl rfl rfl ?_
      go_wp2_with fail
      refine (HX2.out W2 (HBel.out.trans (HB2.out.mono HBel.out.size))).mono ?_; rintro e w3 ⟨q, c, rfl, hmo, hlo, hb⟩
      have hb3 : Below wr.heap.size wr w3 := HB2.out.trans (hb.mono HB2.out.size)
      have hr3 := ownsRow_below HOW.out hb3
      have HR3 := Lib.hid hr3
      have HB3 := Lib.hid hb3
      have HMO := Lib.hid hmo
      have HLO := Lib.hid hlo
      have HS3 : Hid (wr.heap.size ≤ W2.heap.size) := HB2.out.size
      have hth : w3.there g (k * 11) 11 := own_there hr3 k hlt
      have HTH := Lib.hid hth
      clear hb3 hr3 hmo hlo hb hth HX2 HROW HA2 HB2 HOW
      go_wp2_with (with_reducible refine hold_store 40 rfl ?_)
      refine store_ato (k * 11) (x.moved q c).cells HTH.out rfl size40 (all_oneCell_toArray (oneC _)) rfl rfl rfl rfl ?_
      intro w4 hw4
      have hrow4 : w4.ownsRow w.heap.size 40 11 (.slice (some ⟨g, 0, none⟩) l.length c1) l.length (flat (l'.set k (x.moved q c))) := by
        rw [hw4]
        have := HLN.out
        have h5 : w3.ownsRow w.heap.size 40 11 (.slice (some ⟨g, 0, none⟩) l'.length c1) l'.length (flat l') := by rw [this]; exact HR3.out
        have h6 := own_put h5 k (by omega) (x.moved q c)
        rwa [this] at h6
      have hbel4 : Below w.heap.size w w4 := by rw [hw4]; exact below_cells HG.out.1 _ _ (HBel.out.trans (HB3.out.mono HBel.out.size))
      have hsz4 : w3.heap.size = w4.heap.size := by rw [hw4, size_cells]
      have hk4 : ∀ b i, b ≠ g → b < w3.heap.size → w4.cell? ⟨b, i, none⟩ = w3.cell? ⟨b, i, none⟩ := fun b i hb _ => by
        rw [hw4]
        exact World.cell?_setCells_out _ _ _ _ _ (fun h _ => absurd h hb)
      have gs : ∀ j, (l'.set k (x.moved q c)).getD j Ar.zero = if k = j then x.moved q c else l'.getD j Ar.zero := fun j => by
        by_cases e : k = j
        · subst e
          rw [if_pos rfl, getD_get (by rw [List.length_set]; have := HLN.out; omega)]; simp
        · rw [if_neg e]; simp [List.getD, List.getElem?_set_ne e]
      have hmd4 : ∀ j, j < k + 1 → MemOK w4 ((l'.set k (x.moved q c)).getD j Ar.zero) ∧ MemLo w1.heap.size ((l'.set k (x.moved q c)).getD j Ar.zero) := by
        have hG := HG.out
        have hS := HSZ.out
        have hS3 := HS3.out
        intro j hj
        rw [gs]
        by_cases e : k = j
        · rw [if_pos e]
          have hlo2 : MemLo w1.heap.size (x.moved q c) := fun m hm => by have := HLO.out m hm; omega
          exact ⟨HMO.out.keepG (g := g) (by omega) (fun m hm => by have := hlo2 m hm; omega) hk4, hlo2⟩
        · rw [if_neg e]
          obtain ⟨h1, h2⟩ := HMD.out j (by omega)
          exact ⟨(h1.below HB3.out).keepG (g := g) (by omega) (fun m hm => by have := h2 m hm; omega) hk4, h2⟩
      have hky4 : (l'.set k (x.moved q c)).map key = l.map key := by
        rw [List.map_set, key_moved, HX.out, ← HTL.out k (Nat.le_refl _), getD_get (by have := HLN.out; omega), ← HKY.out]
        apply List.ext_getElem?
        intro j
        by_cases e : k = j
        · subst e; simp [List.getElem?_set_self, HLN.out, hlt]
        · rw [List.getElem?_set_ne e]
      have HN1 : Hid ((l'.set k (x.moved q c)).length = l.length) := by rw [List.length_set]; exact HLN.out
      have HN2 : Hid (∀ j, k + 1 ≤ j → (l'.set k (x.moved q c)).getD j Ar.zero = l.getD j Ar.zero) := fun j hj => by rw [gs, if_neg (by omega)]; exact HTL.out j (by omega)
      have HN3 := Lib.hid hky4
      have HN4 := Lib.hid hbel4
      have HN5 : Hid (w1.heap.size ≤ w4.heap.size) := by
        have hS := HSZ.out
        have hb3s := HB3.out.size
        show _ ≤ _
        omega
      have HN6 := Lib.hid hrow4
      have HN7 := Lib.hid hmd4
      clear hrow4 hbel4 hsz4 hk4 gs hmd4 hky4 hw4 HTH HMO HLO HS3 HB3 HR3 HX
      generalize l'.set k (x.moved q c) = l2 at *
      go_wp2_with fail
      go_roundw
      case rel => exact ⟨k + 1, l2, by omega, by go_num, HN1, HN3, HN2, HN4, HN5, HN6, HN7⟩
      case measure => simp [intOf]; omega
    · obtain rfl : k = l.length := by omega
      go_wp2_with fail
      go_ret
      refine ⟨a1, c1, l', rfl, HKY.out, HOW.out, fun x hx => ?_, HBel.out⟩
      obtain ⟨j, hj, rfl⟩ := List.mem_iff_getElem.1 hx
      have hj2 : j < l.length := by have := HLN.out; omega
      have h1 := HMD.out j hj2
      rw [getD_get hj] at h1
      refine ⟨h1.1, fun m hm => Nat.le_trans HB.out.size (h1.2 m hm), fun q hq m hm => ?_⟩
      subst hq
      obtain ⟨_, _, he, _, _, hblk⟩ := ARow.ofOwn HO.out
      have h2 := h1.2 m hm
      have h3 : q.block < w1.heap.size := (HO.out.lt q.block rfl).2
      omega
end Go.Proofs.Ythfjlojikbgnfaa
