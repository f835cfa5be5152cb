/- Punching as the document has it. -/
import Derived.Test.YtebdnnfaghhpkaaWrg
namespace Go.Proofs.Ytebdnnfaghhpkaa
open Go.ChangeShapes Go.WideShapes Go.ChangeAt Go.RowKit

def mkN (n : Nat) (f : Nat → UInt8) : ByteArray := ⟨((List.range n).map f).toArray⟩
theorem mkN_size (n : Nat) (f : Nat → UInt8) : (mkN n f).size = n := by rw [← size_list]; simp [mkN]
theorem bat_mkN (n : Nat) (f : Nat → UInt8) (i : Nat) : bat (mkN n f) i = if i < n then f i else 0 := by
  by_cases h : i < n
  · rw [if_pos h]; simp [bat, mkN, List.getD, h]
  · rw [if_neg h]; exact bat_out (by rw [mkN_size]; omega)
/-- block b is a row of n bytes f, above the base world -/
structure RowN (w0 : World) (b n : Nat) (f : Nat → UInt8) (wr : World) : Prop where
  bel : Below w0.heap.size w0 wr
  lo : w0.heap.size ≤ b
  cell : ∀ j, j < n → wr.cell? ⟨b, j, none⟩ = some (.int .u8 ((f j).toNat : Int))
  fz : ∀ j, j < n → wr.frozen? ⟨b, j, none⟩ = false
theorem RowN.congr {w0 wr : World} {b n : Nat} {f g : Nat → UInt8} (h : RowN w0 b n f wr) (hf : ∀ j, j < n → f j = g j) : RowN w0 b n g wr :=
  ⟨h.bel, h.lo, fun j hj => by rw [← hf j hj]; exact h.cell j hj, h.fz⟩
theorem RowN.set {w0 wr : World} {b n : Nat} {f : Nat → UInt8} (h : RowN w0 b n f wr) (k : Nat) (x : UInt8) : RowN w0 b n (fun j => if j = k then x else f j) (wr.setCell ⟨b, k, none⟩ (.int .u8 (x.toNat : Int))) := by
  refine ⟨h.bel.setCell (p := ⟨b, k, none⟩) h.lo _, h.lo, fun j hj => ?_, fun j hj => by rw [World.frozen?_setCell]; exact h.fz j hj⟩
  by_cases e : j = k
  · subst e
    rw [World.cell?_setCell_same _ _ _ (h.cell j hj), if_pos rfl]
  · rw [World.cell?_setCell_other _ _ _ _ (by intro h; exact e (by cases h; rfl)), h.cell j hj, if_neg e]
theorem RowN.conv {w0 wr : World} {b n : Nat} {f : Nat → UInt8} (h : RowN w0 b n f wr) (cap : Nat) : (convert 46 9 (.slice (some ⟨b, 0, none⟩) n cap)).run Try.prog wr = .ok (.string (mkN n f)) wr := by
  refine conv_bytes wr b n cap ((List.range n).map f) (by simp) ?_
  intro j hj
  have hj' : j < n := by simpa using hj
  rw [h.cell j hj']
  simp
theorem RowN.start (w : World) (s : ByteArray) (C : Nat) (lo hi : Nat) (hm : s.size ≤ lo) : RowN w w.heap.size s.size (bat s) (w.alloc (.cells (bytesRow s C) 5 (lo, hi))) := by
  refine ⟨(Below.refl _ _).alloc (Nat.le_refl _) _, Nat.le_refl _, fun j hj => ?_, fun j hj => ?_⟩
  · rw [World.cell?_alloc_mark]
    have h2 : j < s.data.size := hj
    have h3 : s.data[j]? = some s.data[j] := Array.getElem?_eq_getElem h2
    simp [bytesRow, Array.getElem?_append, h3, bat, List.getD, hj]
  · rw [World.frozen?_alloc_mark]
    simp
    omega
def holed (s : ByteArray) (o k j : Nat) : UInt8 := if o ≤ j ∧ j < k then 0 else bat s j
theorem holed_end (s : ByteArray) (o n k : Nat) (hs : ¬ longB s = true) (hb : ¬ (badB (o : Int) = true ∨ (n : Int) < 0)) (hk : o ≤ k) (hkn : k - o ≤ n) (hks : k ≤ max s.size o) (hend : s.size ≤ k ∨ n ≤ k - o) : punchV s (o : Int) (n : Int) = (mkN s.size (holed s o k), 0) := by
  unfold punchV
  rw [if_neg hs, if_neg hb]
  by_cases hz : min (n : Int) ((s.size : Int) - (o : Int)) ≤ 0
  · rw [if_pos hz]
    congr 1
    apply bat_ext
    · rw [mkN_size]
    · intro i hi
      rw [bat_mkN, if_pos hi]
      unfold holed
      rw [if_neg (by omega)]
  · rw [if_neg hz]
    congr 1
    have e1 : ((o : Int)).toNat = o := by omega
    rw [e1]
    obtain ⟨r, hr⟩ := Int.eq_ofNat_of_zero_le (show 0 ≤ min (n : Int) ((s.size : Int) - (o : Int)) by omega)
    have hr2 : (min (n : Int) ((s.size : Int) - (o : Int))).toNat = r := by omega
    rw [hr2]
    apply bat_ext
    · rw [putS_size, mkN_size, sizedS_size]; omega
    · intro i hi
      rw [putS_size, sizedS_size] at hi
      have hin : i < s.size := by omega
      rw [bat_put, bat_mkN, if_pos hin, sizedS_size, bat_sized]
      have hz0 : ∀ j, bat ⟨#[]⟩ j = 0 := fun j => bat_out (by show 0 ≤ j; omega)
      unfold holed
      by_cases c : o ≤ i ∧ i < o + r
      · have c2 : o ≤ i ∧ i < k := ⟨c.1, by omega⟩
        rw [if_pos c, if_pos c2, hz0]; simp
      · rw [if_neg c, if_neg (by omega)]

set_option maxHeartbeats 4000000 in
theorem punchR_any (s : ByteArray) (off n : Int) (w : World) (hs : s.size ≤ maxLen) (hn9 : n ≤ 9223372036854775807) :
    Calls Try.prog 19 #[.string s, .int .i64 off, .int .i64 n] w (RetW (.tuple #[.string (punchV s off n).1, .int .i64 (punchV s off n).2]) w) := by
  unfold maxLen at hs
  by_cases hl : longB s = true
  · have HR : Hid (punchV s off n = (s, 1)) := by unfold Hid punchV; rw [if_pos hl]
    have h1 : (128 : Int) < (s.size : Int) := by rw [longB_iff] at hl; omega
    clear hl
    go_enter Try.func19, Try.ntmps19
    go_wp2_with fail
    go_ret2
    rw [HR.out]
    exact ⟨rfl, Below.refl _ _⟩
  · have h1 : (s.size : Int) ≤ 128 := by rw [longB_iff] at hl; omega
    by_cases hb : badB off = true ∨ n < 0
    · have HR : Hid (punchV s off n = (s, 2)) := by unfold Hid punchV; rw [if_neg hl, if_pos hb]
      have HB : Hid ((off < 0 ∨ 128 < off) ∨ n < 0) := by rw [badB_iff] at hb; exact hb
      clear hl hb
      go_enter Try.func19, Try.ntmps19
      go_wp2_with fail
      all_goals
        first
        | (exfalso; have := HB.out; omega)
        | (go_ret2
           rw [HR.out]
           exact ⟨rfl, Below.refl _ _⟩)
    · have hof : ¬ ((off < 0 ∨ 128 < off) ∨ n < 0) := by rw [← badB_iff]; exact hb
      obtain ⟨o, rfl⟩ := Int.eq_ofNat_of_zero_le (show 0 ≤ off by omega)
      obtain ⟨m, rfl⟩ := Int.eq_ofNat_of_zero_le (show 0 ≤ n by omega)
      have ho : (o : Int) ≤ 128 := by omega
      have hm0 : (0 : Int) ≤ (m : Int) := by omega
      have HE := Lib.hid (fun k => holed_end s o m k hl hb)
      have hconv := fun (w : World) => run_bytes_of_string (P := Try.prog) w 9 46 5 s Try.underlying9 Try.underlying46 Try.underlying5
      have HROW : Hid (∀ C, s.size ≤ (bytesRow s C).size) := by
        intro C
        have : s.data.size = s.size := rfl
        simp [bytesRow, this]
      clear hl hb hof
      go_enter Try.func19, Try.ntmps19
      go_wp2_with fail
      have hge := grownCap_ge w s.size 0 5
      have hle := grownCap_le_maxLen w s.size 0 5 (by unfold maxLen; omega)
      have hst0 := RowN.start w s (grownCap w s.size 0 5) (bytesRow s (grownCap w s.size 0 5)).size ((bytesRow s (grownCap w s.size 0 5)).size + 1) (HROW.out _)
      have hst : RowN w w.heap.size s.size (bat s) (w.alloc (.cells (bytesRow s (grownCap w s.size 0 5)) 5 ((bytesRow s (grownCap w s.size 0 5)).size, (bytesRow s (grownCap w s.size 0 5)).size + 1))).drew := ⟨hst0.bel.drew, hst0.lo, hst0.cell, hst0.fz⟩
      clear hconv hst0 HROW
      generalize (w.alloc (.cells (bytesRow s (grownCap w s.size 0 5)) 5 ((bytesRow s (grownCap w s.size 0 5)).size, (bytesRow s (grownCap w s.size 0 5)).size + 1))).drew = W at hst ⊢
      generalize grownCap w s.size 0 5 = C at *
      unfold maxLen at hle
      have HST := Lib.hid hst
      clear hst
      go_loopw [9] (fun i wr => ∃ k : Nat, o ≤ k ∧ k - o ≤ m ∧ k ≤ max s.size o ∧ i = .int .i64 k ∧ RowN w w.heap.size s.size (holed s o k) wr) (fun i _ => 300 - (intOf i).toNat)
      case atStart => exact ⟨o, Nat.le_refl _, by omega, by omega, rfl, HST.out.congr (fun j hj => by unfold holed; rw [if_neg (by omega)])⟩
      case round =>
        clear HST
        obtain ⟨k, k1, k2, k3, rfl, hi⟩ := hrel
        by_cases hc1 : k < s.size
        · by_cases hc2 : k - o < m
          · have hc := hi.cell k hc1
            have hz := hi.fz k hc1
            have h3 : (k : Int) - (o : Int) < (m : Int) := by omega
            have h4 : k < C := by omega
            go_wp2_with fail
            go_roundw
            case rel => exact ⟨k + 1, by omega, by omega, by omega, by go_num, (hi.set k 0).congr (fun j hj => by
              unfold holed
              by_cases e : j = k
              · subst e; rw [if_pos rfl, if_pos ⟨by omega, by omega⟩]
              · rw [if_neg e]
                by_cases e2 : o ≤ j ∧ j < k
                · have e3 : o ≤ j ∧ j < k + 1 := ⟨e2.1, by omega⟩
                  rw [if_pos e2, if_pos e3]
                · have e3 : ¬ (o ≤ j ∧ j < k + 1) := by omega
                  rw [if_neg e2, if_neg e3])⟩
            case measure => simp [intOf]; omega
          · have HR := Lib.hid (HE.out k k1 k2 k3 (Or.inr (by omega)))
            have hcv := hi.conv C
            have h3 : (m : Int) ≤ (k : Int) - (o : Int) := by omega
            go_wp2_with fail
            go_ret2
            rw [HR.out]
            exact ⟨rfl, hi.bel⟩
        · have HR := Lib.hid (HE.out k k1 k2 k3 (Or.inl (by omega)))
          have hcv := hi.conv C
          have h3 : (s.size : Int) ≤ (k : Int) := by omega
          go_wp2_with fail
          go_ret2
          rw [HR.out]
          exact ⟨rfl, hi.bel⟩
end Go.Proofs.Ytebdnnfaghhpkaa
