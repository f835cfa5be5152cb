/- Cleaning and soiling: the program's answer and the document's; reading and writing as the document has it. -/
import Derived.Test.YthimcidkmnobnaaWri
namespace Go.Proofs.Ythimcidkmnobnaa
open Go.ChangeShapes Go.WideShapes Go.ChangeAt Go.RowKit

def sectorsV (p : Pg) (n : Int) : Int := if chk p = true then (if isSet n = true then 0 else 2) else 1
def cleanV (p : Pg) (n : Int) : Pg × Int := if sectorsV p n = 0 then (⟨p.d, p.v, bits .andNot .i64 p.e n⟩, 0) else (noPg, sectorsV p n)
def soilV (p : Pg) (n : Int) : Pg × Int := if sectorsV p n = 0 then (⟨p.d, p.v, bits .or .i64 p.e (bits .and .i64 n p.v)⟩, 0) else (noPg, sectorsV p n)
theorem sectorsV_cases (p : Pg) (n : Int) : (chk p = false ∧ sectorsV p n = 1) ∨ (chk p = true ∧ isSet n = false ∧ sectorsV p n = 2) ∨ (chk p = true ∧ isSet n = true ∧ sectorsV p n = 0) := by
  unfold sectorsV
  cases chk p <;> cases isSet n <;> simp
theorem isSet_iff {n : Int} : isSet n = true ↔ 0 ≤ n ∧ n ≤ 3 := by simp [isSet]

set_option maxHeartbeats 1000000 in
theorem sectors_any (p : Pg) (n : Int) (w : World) (hd : p.d.size ≤ maxLen) :
    Calls Try.prog 41 #[p.val, .int .i64 n] w (RetW (.int .i64 (sectorsV p n)) w) := by
  have hch := check_any p
  have hss := set_any n
  have hcs := sectorsV_cases p n
  generalize sectorsV p n = z at *
  generalize isSet n = y at *
  generalize chk p = x at *
  obtain ⟨d, v, e⟩ := p
  simp only [Pg.val] at hch hd ⊢
  have HC := Lib.hid hch; clear hch
  have HS := Lib.hid hss; clear hss
  rcases hcs with ⟨rfl, rfl⟩ | ⟨rfl, rfl, rfl⟩ | ⟨rfl, rfl, rfl⟩
  all_goals
    go_enter Try.func41, Try.ntmps41
    go_wp2_with (first | (go_at_call 16; refine (HC.out _ hd).mono ?_; rintro e w' ⟨rfl, hb⟩) | (go_at_call 39; refine (HS.out _).mono ?_; rintro e w' ⟨rfl, rfl⟩))
    go_ret
    exact RetW.mk rfl (((Below.refl _ _).alloc (Nat.le_refl _) _).trans (hb.mono (by simp)))

set_option maxHeartbeats 2000000 in
theorem clean_any (p : Pg) (n : Int) (w : World) (hd : p.d.size ≤ maxLen) :
    Calls Try.prog 28 #[p.val, .int .i64 n] w (RetW (.tuple #[(cleanV p n).1.val, .int .i64 (cleanV p n).2]) w) := by
  have hch := sectors_any p n
  have HR : Hid (cleanV p n = if sectorsV p n = 0 then (⟨p.d, p.v, bits .andNot .i64 p.e n⟩, 0) else (noPg, sectorsV p n)) := rfl
  generalize cleanV p n = r at *
  generalize sectorsV p n = z at *
  obtain ⟨d, v, e⟩ := p
  simp only [Pg.val] at hch hd HR ⊢
  have HC := Lib.hid hch; clear hch
  by_cases hz : z = 0
  · subst hz
    go_enter Try.func28, Try.ntmps28
    go_wp2_with (go_at_call 41; refine (HC.out _ hd).mono ?_; rintro e w' ⟨rfl, hb⟩; obtain ⟨hcc, hff⟩ := bcell hb; have c2 : w'.cell? ⟨w.heap.size, 2, none⟩ = some (.int .i64 e) := (by rw [hcc _ _ (by simp; omega)]; simp); have hz : w.heap.size + 1 < w'.heap.size := (by have := hb.size; simp at this; omega))
    refine bodyPost_ret (v := .tuple #[.agg #[.string d, .int .i64 v, .int .i64 (bits .andNot .i64 e n)], .int .i64 0]) (by simp [results, Try.results28, go_sem, hcc, hz]) rfl ⟨by rw [HR.out]; rfl, ?_⟩
    have h1 : Below w.heap.size w w' := (((Below.refl _ _).alloc (Nat.le_refl _) _).alloc (by simp) _).trans (hb.mono (by simp; omega))
    exact ((((h1.setCell (p := ⟨w.heap.size, 2, none⟩) (by simp) _).setCell (p := ⟨w.heap.size + 1, 0, none⟩) (by simp) _).setCell (p := ⟨w.heap.size + 1, 1, none⟩) (by simp) _).setCell (p := ⟨w.heap.size + 1, 2, none⟩) (by simp) _)
  · go_enter Try.func28, Try.ntmps28
    go_wp2_with (go_at_call 41; refine (HC.out _ hd).mono ?_; rintro e w' ⟨rfl, hb⟩; obtain ⟨hcc, hff⟩ := bcell hb; have hz' : w.heap.size + 1 < w'.heap.size := (by have := hb.size; simp at this; omega))
    refine bodyPost_ret (v := .tuple #[.agg #[.string ⟨#[]⟩, .int .i64 0, .int .i64 0], .int .i64 z]) (by simp [results, Try.results28, go_sem, hcc, hz']) rfl ⟨by rw [HR.out, if_neg hz]; rfl, ?_⟩
    have h1 : Below w.heap.size w w' := (((Below.refl _ _).alloc (Nat.le_refl _) _).alloc (by simp) _).trans (hb.mono (by simp; omega))
    exact (((h1.setCell (p := ⟨w.heap.size + 1, 0, none⟩) (by simp) _).setCell (p := ⟨w.heap.size + 1, 1, none⟩) (by simp) _).setCell (p := ⟨w.heap.size + 1, 2, none⟩) (by simp) _)

set_option maxHeartbeats 2000000 in
theorem soil_any (p : Pg) (n : Int) (w : World) (hd : p.d.size ≤ maxLen) :
    Calls Try.prog 30 #[p.val, .int .i64 n] w (RetW (.tuple #[(soilV p n).1.val, .int .i64 (soilV p n).2]) w) := by
  have hch := sectors_any p n
  have HR : Hid (soilV p n = if sectorsV p n = 0 then (⟨p.d, p.v, bits .or .i64 p.e (bits .and .i64 n p.v)⟩, 0) else (noPg, sectorsV p n)) := rfl
  generalize soilV p n = r at *
  generalize sectorsV p n = z at *
  obtain ⟨d, v, e⟩ := p
  simp only [Pg.val] at hch hd HR ⊢
  have HC := Lib.hid hch; clear hch
  by_cases hz : z = 0
  · subst hz
    go_enter Try.func30, Try.ntmps30
    go_wp2_with (go_at_call 41; refine (HC.out _ hd).mono ?_; rintro e w' ⟨rfl, hb⟩; obtain ⟨hcc, hff⟩ := bcell hb; have c2 : w'.cell? ⟨w.heap.size, 2, none⟩ = some (.int .i64 e) := (by rw [hcc _ _ (by simp; omega)]; simp); have hz : w.heap.size + 1 < w'.heap.size := (by have := hb.size; simp at this; omega))
    refine bodyPost_ret (v := .tuple #[.agg #[.string d, .int .i64 v, .int .i64 (bits .or .i64 e (bits .and .i64 n v))], .int .i64 0]) (by simp [results, Try.results30, go_sem, hcc, hz]) rfl ⟨by rw [HR.out]; rfl, ?_⟩
    have h1 : Below w.heap.size w w' := (((Below.refl _ _).alloc (Nat.le_refl _) _).alloc (by simp) _).trans (hb.mono (by simp; omega))
    exact ((((h1.setCell (p := ⟨w.heap.size, 2, none⟩) (by simp) _).setCell (p := ⟨w.heap.size + 1, 0, none⟩) (by simp) _).setCell (p := ⟨w.heap.size + 1, 1, none⟩) (by simp) _).setCell (p := ⟨w.heap.size + 1, 2, none⟩) (by simp) _)
  · go_enter Try.func30, Try.ntmps30
    go_wp2_with (go_at_call 41; refine (HC.out _ hd).mono ?_; rintro e w' ⟨rfl, hb⟩; obtain ⟨hcc, hff⟩ := bcell hb; have hz' : w.heap.size + 1 < w'.heap.size := (by have := hb.size; simp at this; omega))
    refine bodyPost_ret (v := .tuple #[.agg #[.string ⟨#[]⟩, .int .i64 0, .int .i64 0], .int .i64 z]) (by simp [results, Try.results30, go_sem, hcc, hz']) rfl ⟨by rw [HR.out, if_neg hz]; rfl, ?_⟩
    have h1 : Below w.heap.size w w' := (((Below.refl _ _).alloc (Nat.le_refl _) _).alloc (by simp) _).trans (hb.mono (by simp; omega))
    exact (((h1.setCell (p := ⟨w.heap.size + 1, 0, none⟩) (by simp) _).setCell (p := ⟨w.heap.size + 1, 1, none⟩) (by simp) _).setCell (p := ⟨w.heap.size + 1, 2, none⟩) (by simp) _)

set_option maxHeartbeats 2000000 in
theorem cleanR_any (p : Pg) (n : Int) (w : World) (hd : p.d.size ≤ maxLen) :
    Calls Try.prog 29 #[p.val, .int .i64 n] w (RetW (.tuple #[(cleanV p n).1.val, .int .i64 (cleanV p n).2]) w) := by
  have hch := checkR_any p
  have hcs := sectorsV_cases p n
  have HR : Hid (cleanV p n = if sectorsV p n = 0 then (⟨p.d, p.v, bits .andNot .i64 p.e n⟩, 0) else (noPg, sectorsV p n)) := rfl
  generalize cleanV p n = r at *
  generalize sectorsV p n = z at *
  generalize chk p = x at *
  obtain ⟨d, v, e⟩ := p
  simp only [Pg.val] at hch hd HR ⊢
  have HC := Lib.hid hch; clear hch
  rcases hcs with ⟨rfl, rfl⟩ | ⟨rfl, hn, rfl⟩ | ⟨rfl, hn, rfl⟩
  · go_enter Try.func29, Try.ntmps29
    go_wp2_with (go_at_call 17; refine (HC.out _ hd).mono ?_; rintro e w' ⟨rfl, hb⟩; obtain ⟨hcc, hff⟩ := bcell hb; have hz' : w.heap.size + 1 < w'.heap.size := (by have := hb.size; simp at this; omega))
    refine bodyPost_ret (v := .tuple #[.agg #[.string ⟨#[]⟩, .int .i64 0, .int .i64 0], .int .i64 1]) (by simp [results, Try.results29, go_sem, hcc, hz']) rfl ⟨by rw [HR.out]; rfl, ?_⟩
    have h1 : Below w.heap.size w w' := (((Below.refl _ _).alloc (Nat.le_refl _) _).alloc (by simp) _).trans (hb.mono (by simp; omega))
    exact (((h1.setCell (p := ⟨w.heap.size + 1, 0, none⟩) (by simp) _).setCell (p := ⟨w.heap.size + 1, 1, none⟩) (by simp) _).setCell (p := ⟨w.heap.size + 1, 2, none⟩) (by simp) _)
  · have hn' : ¬ (0 ≤ n ∧ n ≤ 3) := by rw [← isSet_iff, hn]; simp
    clear hn
    have HN := Lib.hid hn'; clear hn'
    by_cases hl : 0 ≤ n
    · have hl2 : ¬ n ≤ 3 := fun h => HN.out ⟨hl, h⟩
      go_enter Try.func29, Try.ntmps29
      go_wp2_with (go_at_call 17; refine (HC.out _ hd).mono ?_; rintro e w' ⟨rfl, hb⟩; obtain ⟨hcc, hff⟩ := bcell hb; have hz' : w.heap.size + 1 < w'.heap.size := (by have := hb.size; simp at this; omega))
      refine bodyPost_ret (v := .tuple #[.agg #[.string ⟨#[]⟩, .int .i64 0, .int .i64 0], .int .i64 2]) (by simp [results, Try.results29, go_sem, hcc, hz']) rfl ⟨by rw [HR.out]; rfl, ?_⟩
      have h1 : Below w.heap.size w w' := (((Below.refl _ _).alloc (Nat.le_refl _) _).alloc (by simp) _).trans (hb.mono (by simp; omega))
      exact (((h1.setCell (p := ⟨w.heap.size + 1, 0, none⟩) (by simp) _).setCell (p := ⟨w.heap.size + 1, 1, none⟩) (by simp) _).setCell (p := ⟨w.heap.size + 1, 2, none⟩) (by simp) _)
    · go_enter Try.func29, Try.ntmps29
      go_wp2_with (go_at_call 17; refine (HC.out _ hd).mono ?_; rintro e w' ⟨rfl, hb⟩; obtain ⟨hcc, hff⟩ := bcell hb; have hz' : w.heap.size + 1 < w'.heap.size := (by have := hb.size; simp at this; omega))
      refine bodyPost_ret (v := .tuple #[.agg #[.string ⟨#[]⟩, .int .i64 0, .int .i64 0], .int .i64 2]) (by simp [results, Try.results29, go_sem, hcc, hz']) rfl ⟨by rw [HR.out]; rfl, ?_⟩
      have h1 : Below w.heap.size w w' := (((Below.refl _ _).alloc (Nat.le_refl _) _).alloc (by simp) _).trans (hb.mono (by simp; omega))
      exact (((h1.setCell (p := ⟨w.heap.size + 1, 0, none⟩) (by simp) _).setCell (p := ⟨w.heap.size + 1, 1, none⟩) (by simp) _).setCell (p := ⟨w.heap.size + 1, 2, none⟩) (by simp) _)
  · obtain ⟨hn0, hn1⟩ := isSet_iff.1 hn
    clear hn
    go_enter Try.func29, Try.ntmps29
    go_wp2_with (go_at_call 17; refine (HC.out _ hd).mono ?_; rintro e w' ⟨rfl, hb⟩; obtain ⟨hcc, hff⟩ := bcell hb; have c2 : w'.cell? ⟨w.heap.size, 2, none⟩ = some (.int .i64 e) := (by rw [hcc _ _ (by simp; omega)]; simp); have hz : w.heap.size + 1 < w'.heap.size := (by have := hb.size; simp at this; omega))
    refine bodyPost_ret (v := .tuple #[.agg #[.string d, .int .i64 v, .int .i64 (bits .andNot .i64 e n)], .int .i64 0]) (by simp [results, Try.results29, go_sem, hcc, hz]) rfl ⟨by rw [HR.out]; rfl, ?_⟩
    have h1 : Below w.heap.size w w' := (((Below.refl _ _).alloc (Nat.le_refl _) _).alloc (by simp) _).trans (hb.mono (by simp; omega))
    exact ((((h1.setCell (p := ⟨w.heap.size, 2, none⟩) (by simp) _).setCell (p := ⟨w.heap.size + 1, 0, none⟩) (by simp) _).setCell (p := ⟨w.heap.size + 1, 1, none⟩) (by simp) _).setCell (p := ⟨w.heap.size + 1, 2, none⟩) (by simp) _)

set_option maxHeartbeats 2000000 in
theorem soilR_any (p : Pg) (n : Int) (w : World) (hd : p.d.size ≤ maxLen) :
    Calls Try.prog 31 #[p.val, .int .i64 n] w (RetW (.tuple #[(soilV p n).1.val, .int .i64 (soilV p n).2]) w) := by
  have hch := checkR_any p
  have hcs := sectorsV_cases p n
  have HR : Hid (soilV p n = if sectorsV p n = 0 then (⟨p.d, p.v, bits .or .i64 p.e (bits .and .i64 n p.v)⟩, 0) else (noPg, sectorsV p n)) := rfl
  generalize soilV p n = r at *
  generalize sectorsV p n = z at *
  generalize chk p = x at *
  obtain ⟨d, v, e⟩ := p
  simp only [Pg.val] at hch hd HR ⊢
  have HC := Lib.hid hch; clear hch
  rcases hcs with ⟨rfl, rfl⟩ | ⟨rfl, hn, rfl⟩ | ⟨rfl, hn, rfl⟩
  · go_enter Try.func31, Try.ntmps31
    go_wp2_with (go_at_call 17; refine (HC.out _ hd).mono ?_; rintro e w' ⟨rfl, hb⟩; obtain ⟨hcc, hff⟩ := bcell hb; have hz' : w.heap.size + 1 < w'.heap.size := (by have := hb.size; simp at this; omega))
    refine bodyPost_ret (v := .tuple #[.agg #[.string ⟨#[]⟩, .int .i64 0, .int .i64 0], .int .i64 1]) (by simp [results, Try.results31, go_sem, hcc, hz']) rfl ⟨by rw [HR.out]; rfl, ?_⟩
    have h1 : Below w.heap.size w w' := (((Below.refl _ _).alloc (Nat.le_refl _) _).alloc (by simp) _).trans (hb.mono (by simp; omega))
    exact (((h1.setCell (p := ⟨w.heap.size + 1, 0, none⟩) (by simp) _).setCell (p := ⟨w.heap.size + 1, 1, none⟩) (by simp) _).setCell (p := ⟨w.heap.size + 1, 2, none⟩) (by simp) _)
  · have hn' : ¬ (0 ≤ n ∧ n ≤ 3) := by rw [← isSet_iff, hn]; simp
    clear hn
    have HN := Lib.hid hn'; clear hn'
    by_cases hl : 0 ≤ n
    · have hl2 : ¬ n ≤ 3 := fun h => HN.out ⟨hl, h⟩
      go_enter Try.func31, Try.ntmps31
      go_wp2_with (go_at_call 17; refine (HC.out _ hd).mono ?_; rintro e w' ⟨rfl, hb⟩; obtain ⟨hcc, hff⟩ := bcell hb; have hz' : w.heap.size + 1 < w'.heap.size := (by have := hb.size; simp at this; omega))
      refine bodyPost_ret (v := .tuple #[.agg #[.string ⟨#[]⟩, .int .i64 0, .int .i64 0], .int .i64 2]) (by simp [results, Try.results31, go_sem, hcc, hz']) rfl ⟨by rw [HR.out]; rfl, ?_⟩
      have h1 : Below w.heap.size w w' := (((Below.refl _ _).alloc (Nat.le_refl _) _).alloc (by simp) _).trans (hb.mono (by simp; omega))
      exact (((h1.setCell (p := ⟨w.heap.size + 1, 0, none⟩) (by simp) _).setCell (p := ⟨w.heap.size + 1, 1, none⟩) (by simp) _).setCell (p := ⟨w.heap.size + 1, 2, none⟩) (by simp) _)
    · go_enter Try.func31, Try.ntmps31
      go_wp2_with (go_at_call 17; refine (HC.out _ hd).mono ?_; rintro e w' ⟨rfl, hb⟩; obtain ⟨hcc, hff⟩ := bcell hb; have hz' : w.heap.size + 1 < w'.heap.size := (by have := hb.size; simp at this; omega))
      refine bodyPost_ret (v := .tuple #[.agg #[.string ⟨#[]⟩, .int .i64 0, .int .i64 0], .int .i64 2]) (by simp [results, Try.results31, go_sem, hcc, hz']) rfl ⟨by rw [HR.out]; rfl, ?_⟩
      have h1 : Below w.heap.size w w' := (((Below.refl _ _).alloc (Nat.le_refl _) _).alloc (by simp) _).trans (hb.mono (by simp; omega))
      exact (((h1.setCell (p := ⟨w.heap.size + 1, 0, none⟩) (by simp) _).setCell (p := ⟨w.heap.size + 1, 1, none⟩) (by simp) _).setCell (p := ⟨w.heap.size + 1, 2, none⟩) (by simp) _)
  · obtain ⟨hn0, hn1⟩ := isSet_iff.1 hn
    clear hn
    go_enter Try.func31, Try.ntmps31
    go_wp2_with (go_at_call 17; refine (HC.out _ hd).mono ?_; rintro e w' ⟨rfl, hb⟩; obtain ⟨hcc, hff⟩ := bcell hb; have c2 : w'.cell? ⟨w.heap.size, 2, none⟩ = some (.int .i64 e) := (by rw [hcc _ _ (by simp; omega)]; simp); have hz : w.heap.size + 1 < w'.heap.size := (by have := hb.size; simp at this; omega))
    refine bodyPost_ret (v := .tuple #[.agg #[.string d, .int .i64 v, .int .i64 (bits .or .i64 e (bits .and .i64 n v))], .int .i64 0]) (by simp [results, Try.results31, go_sem, hcc, hz]) rfl ⟨by rw [HR.out]; rfl, ?_⟩
    have h1 : Below w.heap.size w w' := (((Below.refl _ _).alloc (Nat.le_refl _) _).alloc (by simp) _).trans (hb.mono (by simp; omega))
    exact ((((h1.setCell (p := ⟨w.heap.size, 2, none⟩) (by simp) _).setCell (p := ⟨w.heap.size + 1, 0, none⟩) (by simp) _).setCell (p := ⟨w.heap.size + 1, 1, none⟩) (by simp) _).setCell (p := ⟨w.heap.size + 1, 2, none⟩) (by simp) _)

end Go.Proofs.Ythimcidkmnobnaa
