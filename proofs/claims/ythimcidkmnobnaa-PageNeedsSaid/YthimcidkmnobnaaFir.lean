/- Filling a page: the document's answer. -/
import Derived.Test.YthimcidkmnobnaaFib
namespace Go.Proofs.Ythimcidkmnobnaa
open Go.ChangeShapes Go.WideShapes Go.ChangeAt Go.RowKit

theorem and1 (a b : Bool) : bits .and .i64 (sb a b) 1 = (if a = true then 1 else 0) := by cases a <;> cases b <;> decide
theorem and2 (a b : Bool) : bits .and .i64 (sb a b) 2 = (if b = true then 2 else 0) := by cases a <;> cases b <;> decide
theorem wants1 (a b c d : Bool) : wants (sb a b) (sb c d) 1 = (a && !c) := by cases a <;> cases b <;> cases c <;> cases d <;> decide
theorem wants2 (a b c d : Bool) : wants (sb a b) (sb c d) 2 = (b && !d) := by cases a <;> cases b <;> cases c <;> cases d <;> decide
def mixed (d data : ByteArray) (x y : Bool) (k j : Nat) : UInt8 := if j < k then fillX d data x y j else bat d j
theorem mixed_step (d data : ByteArray) (x y : Bool) (k : Nat) (hw : (if k < 8 then x else y) = true) (j : Nat) : (if j = k then bat data k else mixed d data x y k j) = mixed d data x y (k + 1) j := by
  unfold mixed
  by_cases h1 : j = k
  · subst h1
    rw [if_pos rfl, if_pos (by omega)]
    unfold fillX; rw [if_pos hw]
  · rw [if_neg h1]
    by_cases h2 : j < k
    · rw [if_pos h2, if_pos (by omega)]
    · rw [if_neg h2, if_neg (by omega)]
theorem mixed_skip (d data : ByteArray) (x y : Bool) (k : Nat) (hw : (if k < 8 then x else y) = false) (j : Nat) : mixed d data x y k j = mixed d data x y (k + 1) j := by
  unfold mixed
  by_cases h2 : j < k
  · rw [if_pos h2, if_pos (by omega)]
  · rw [if_neg h2]
    by_cases h1 : j = k
    · subst h1
      rw [if_pos (by omega)]
      unfold fillX; rw [hw]; simp
    · rw [if_neg (by omega)]

set_option maxHeartbeats 4000000 in
set_option maxRecDepth 100000 in
theorem fillR_good (d data : ByteArray) (v e s : Int) (w : World) (hc : chk ⟨d, v, e⟩ = true) (hs : isSet s = true) (hd : d.size = 16) (hdat : data.size = 16) :
    Calls Try.prog 25 #[.agg #[.string d, .int .i64 v, .int .i64 e], .int .i64 s, .string data] w
      (RetW (.tuple #[.agg #[.string (mk16 (fillX d data (wants s v 1) (wants s v 2))), .int .i64 (bits .or .i64 v s), .int .i64 e], .int .i64 0]) w) := by
  obtain ⟨d', a, b, c1, c2, hp, _, _, _⟩ := chk_right hc
  obtain ⟨rfl, rfl, rfl⟩ : d = d' ∧ v = sb a b ∧ e = sb c1 c2 := by simpa using hp
  obtain ⟨s0, s1, rfl⟩ := sb_of (isSet_iff.1 hs).1 (isSet_iff.1 hs).2
  have hch := checkR_any ⟨d, sb a b, sb c1 c2⟩
  have bs := sb_bd s0 s1
  simp only [Pg.val, hc] at hch
  have HC := Lib.hid (fun w => hch w (by unfold maxLen; omega))
  have HD := Lib.hid hd
  have HT := Lib.hid hdat
  have HX := Lib.hid (wants1 s0 s1 a b)
  have HY := Lib.hid (wants2 s0 s1 a b)
  have HA1 := Lib.hid (and1 s0 s1)
  have HA2 := Lib.hid (and2 s0 s1)
  have HB1 := Lib.hid (and1 a b)
  have HB2 := Lib.hid (and2 a b)
  clear hp
  generalize wants (sb s0 s1) (sb a b) 1 = x at *
  generalize wants (sb s0 s1) (sb a b) 2 = y at *
  generalize sb s0 s1 = s at *
  generalize sb a b = v at *
  generalize sb c1 c2 = e at *
  have hq1 : decide (data.size = 16) = true := by simpa using hdat
  have hq2 : ((data.size : Int) != 16) = false := by simp [hdat]
  have hconv : ∀ (w : World), (convert 9 45 (.string d)).run Try.prog w = .ok (.slice (some ⟨w.heap.size, 0, none⟩) 16 (grownCap w 16 0 5)) (w.drew.alloc (.cells (bytesRow d (grownCap w 16 0 5)) 5 ((bytesRow d (grownCap w 16 0 5)).size, (bytesRow d (grownCap w 16 0 5)).size + 1))) := by
    intro w
    have := run_bytes_of_string (P := Try.prog) w 9 45 5 d Try.underlying9 Try.underlying45 Try.underlying5
    rw [hd] at this
    exact this
  have hrow : ∀ C, 16 ≤ (bytesRow d C).size := by
    intro C
    have : d.data.size = 16 := hd
    simp [bytesRow, this]
  have HROW := Lib.hid hrow
  clear hrow
  clear hch hc hs hd hdat
  go_enter Try.func25, Try.ntmps25
  go_wp2_with (first | (go_at_call 17; refine (HC.out _).mono ?_; rintro e w' ⟨rfl, hb⟩; obtain ⟨hcc, hff⟩ := bcell hb))
  have hge := grownCap_ge w' 16 0 5
  have hle := grownCap_le_maxLen w' 16 0 5 (by unfold maxLen; omega)
  have hst := (FInv.start (w := w) (v := v) (e := e) HD.out (grownCap w' 16 0 5) hge (bytesRow d (grownCap w' 16 0 5)).size ((bytesRow d (grownCap w' 16 0 5)).size + 1) (HROW.out _) (hb.mono (by simp))).drew
  generalize (w'.alloc (.cells (bytesRow d (grownCap w' 16 0 5)) 5 ((bytesRow d (grownCap w' 16 0 5)).size, (bytesRow d (grownCap w' 16 0 5)).size + 1))).drew = W at hst ⊢
  generalize grownCap w' 16 0 5 = C at hge hle ⊢
  clear hconv hcc hff hb HROW
  generalize w'.heap.size = g at hst ⊢
  unfold maxLen at hle
  clear hq1 hq2
  go_loopw [9] (fun i wr => ∃ k : Nat, k ≤ 16 ∧ i = .int .i64 k ∧ FInv w g d v e (mixed d data x y k) wr) (fun i _ => 16 - (intOf i).toNat)
  case atStart => exact ⟨0, by omega, rfl, hst.congr (fun j hj => by simp [mixed])⟩
  case round =>
    obtain ⟨k, hk, rfl, hi⟩ := hrel
    by_cases hlt : k < 16
    · have p1 := hi.p1
      have hrow := hi.row k hlt
      have hrz := hi.rz k hlt
      have hks : k < data.size := by have := HT.out; omega
      have hks2 : k < C := by omega
      by_cases h8 : k < 8
      · have hdiv : (k : Int) / 8 = 0 := by omega
        have hs0 := HA1.out
        have hv0 := HB1.out
        have HW : Hid ((if k < 8 then x else y) = (s0 && !a)) := by unfold Hid; rw [if_pos h8]; exact HX.out
        cases s0 <;> cases a
        all_goals simp only [if_true, if_false, Bool.false_eq_true] at hs0 hv0
        all_goals
          go_wp2_with fail
        all_goals
          first
          | (go_roundw
             case rel => exact ⟨k + 1, by omega, by go_num, hi.congr (fun j hj => mixed_skip d data x y k HW.out j)⟩
             case measure => simp [intOf]; omega)
          | (go_roundw
             case rel => exact ⟨k + 1, by omega, by go_num, (by rw [bat_get]; exact (hi.set k hlt (bat data k)).congr (fun j hj => mixed_step d data x y k HW.out j))⟩
             case measure => simp [intOf]; omega)
      · have hdiv : (k : Int) / 8 = 1 := by omega
        have hs0 := HA2.out
        have hv0 := HB2.out
        have HW : Hid ((if k < 8 then x else y) = (s1 && !b)) := by unfold Hid; rw [if_neg h8]; exact HY.out
        cases s1 <;> cases b
        all_goals simp only [if_true, if_false, Bool.false_eq_true] at hs0 hv0
        all_goals
          go_wp2_with fail
        all_goals
          first
          | (go_roundw
             case rel => exact ⟨k + 1, by omega, by go_num, hi.congr (fun j hj => mixed_skip d data x y k HW.out j)⟩
             case measure => simp [intOf]; omega)
          | (go_roundw
             case rel => exact ⟨k + 1, by omega, by go_num, (by rw [bat_get]; exact (hi.set k hlt (bat data k)).congr (fun j hj => mixed_step d data x y k HW.out j))⟩
             case measure => simp [intOf]; omega)
    · obtain rfl : k = 16 := by omega
      have hcv := hi.conv C
      have p1 := hi.p1
      have p2 := hi.p2
      have r0 := hi.r0
      have r1 := hi.r1
      have r2 := hi.r2
      have z0 := hi.z0
      have z1 := hi.z1
      have z2 := hi.z2
      have HI := Lib.hid hi
      clear hi
      have he : mk16 (mixed d data x y 16) = mk16 (fillX d data x y) := mk16_ext (fun i hi => by unfold mixed; rw [if_pos hi])
      rw [he] at hcv
      clear he
      go_wp2_with fail
      refine bodyPost_ret (v := .tuple #[.agg #[.string (mk16 (fillX d data x y)), .int .i64 (bits .or .i64 v s), .int .i64 e], .int .i64 0]) (by simp [results, Try.results25, go_sem, r0, r1, r2]) rfl ⟨rfl, ?_⟩
      exact ((HI.out.bel.setCell (p := ⟨w.heap.size + 1, 0, none⟩) (by simp) _).setCell (p := ⟨w.heap.size + 1, 1, none⟩) (by simp) _).setCell (p := ⟨w.heap.size + 1, 2, none⟩) (by simp) _

set_option maxHeartbeats 2000000 in
theorem fillR_any (p : Pg) (s : Int) (data : ByteArray) (w : World) (hd : p.d.size ≤ maxLen) (hdat : data.size ≤ maxLen) :
    Calls Try.prog 25 #[p.val, .int .i64 s, .string data] w (RetW (.tuple #[(fillV p s data).1.val, .int .i64 (fillV p s data).2]) w) := by
  have hch := checkR_any p
  have HR : Hid (fillV p s data = if chk p = true then (if isSet s = true ∧ data.size = 16 then (⟨mk16 (fillX p.d data (wants s p.v 1) (wants s p.v 2)), bits .or .i64 p.v s, p.e⟩, 0) else (noPg, 2)) else (noPg, 1)) := rfl
  by_cases hc : chk p = true
  · by_cases hs : isSet s = true ∧ data.size = 16
    · have := fillR_good p.d data p.v p.e s w hc hs.1 (chk_size hc) hs.2
      rw [HR.out, if_pos hc, if_pos hs]
      exact this
    · rw [hc] at hch
      rw [if_pos hc, if_neg hs] at HR
      have HN := Lib.hid hs
      clear hs hc
      generalize fillV p s data = r at *
      obtain ⟨d, v, e⟩ := p
      simp only [Pg.val] at hch hd HR ⊢
      have HC := Lib.hid hch; clear hch
      cases hs : isSet s with
      | false =>
        have hn' : ¬ (0 ≤ s ∧ s ≤ 3) := by rw [← isSet_iff, hs]; simp
        have HN' := Lib.hid hn'; clear hn' hs
        go_enter Try.func25, Try.ntmps25
        go_wp2_with (first | (go_at_call 17; refine (HC.out _ hd).mono ?_; rintro e w' ⟨rfl, hb⟩; obtain ⟨hcc, hff⟩ := bcell hb; have hz : w.heap.size + 1 < w'.heap.size := (by have := hb.size; simp at this; omega)))
        all_goals
          first
          | (exfalso; have := HN'.out; omega)
          | (refine bodyPost_ret (v := .tuple #[.agg #[.string ⟨#[]⟩, .int .i64 0, .int .i64 0], .int .i64 2]) (by simp [results, Try.results25, go_sem, hcc, hz]) rfl ⟨by rw [HR.out]; rfl, ?_⟩
             have h1 : Below w.heap.size w w' := (((Below.refl _ _).alloc (Nat.le_refl _) _).alloc (by simp) _).trans (hb.mono (by simp; omega))
             exact (((h1.setCell (p := ⟨w.heap.size + 1, 0, none⟩) (by simp) _).setCell (p := ⟨w.heap.size + 1, 1, none⟩) (by simp) _).setCell (p := ⟨w.heap.size + 1, 2, none⟩) (by simp) _))
      | true =>
        have hne : ¬ data.size = 16 := fun h => HN.out ⟨hs, h⟩
        have hq : ((data.size : Int) != 16) = true := by simp; omega
        have hq1 : ¬ ((data.size : Int) = 16) := by omega
        obtain ⟨q0, q1⟩ := isSet_iff.1 hs
        clear hs hne HN
        go_enter Try.func25, Try.ntmps25
        go_wp2_with (first | (go_at_call 17; refine (HC.out _ hd).mono ?_; rintro e w' ⟨rfl, hb⟩; obtain ⟨hcc, hff⟩ := bcell hb; have hz : w.heap.size + 1 < w'.heap.size := (by have := hb.size; simp at this; omega)))
        refine bodyPost_ret (v := .tuple #[.agg #[.string ⟨#[]⟩, .int .i64 0, .int .i64 0], .int .i64 2]) (by simp [results, Try.results25, go_sem, hcc, hz]) rfl ⟨by rw [HR.out]; rfl, ?_⟩
        have h1 : Below w.heap.size w w' := (((Below.refl _ _).alloc (Nat.le_refl _) _).alloc (by simp) _).trans (hb.mono (by simp; omega))
        exact (((h1.setCell (p := ⟨w.heap.size + 1, 0, none⟩) (by simp) _).setCell (p := ⟨w.heap.size + 1, 1, none⟩) (by simp) _).setCell (p := ⟨w.heap.size + 1, 2, none⟩) (by simp) _)
  · rw [if_neg hc] at HR
    have hc' : chk p = false := by simpa using hc
    rw [hc'] at hch
    clear hc hc'
    generalize fillV p s data = r at *
    obtain ⟨d, v, e⟩ := p
    simp only [Pg.val] at hch hd HR ⊢
    have HC := Lib.hid hch; clear hch
    go_enter Try.func25, Try.ntmps25
    go_wp2_with (go_at_call 17; refine (HC.out _ hd).mono ?_; rintro e w' ⟨rfl, hb⟩; obtain ⟨hcc, hff⟩ := bcell hb; have hz : w.heap.size + 1 < w'.heap.size := (by have := hb.size; simp at this; omega))
    refine bodyPost_ret (v := .tuple #[.agg #[.string ⟨#[]⟩, .int .i64 0, .int .i64 0], .int .i64 1]) (by simp [results, Try.results25, go_sem, hcc, hz]) rfl ⟨by rw [HR.out]; rfl, ?_⟩
    have h1 : Below w.heap.size w w' := (((Below.refl _ _).alloc (Nat.le_refl _) _).alloc (by simp) _).trans (hb.mono (by simp; omega))
    exact (((h1.setCell (p := ⟨w.heap.size + 1, 0, none⟩) (by simp) _).setCell (p := ⟨w.heap.size + 1, 1, none⟩) (by simp) _).setCell (p := ⟨w.heap.size + 1, 2, none⟩) (by simp) _)
end Go.Proofs.Ythimcidkmnobnaa
