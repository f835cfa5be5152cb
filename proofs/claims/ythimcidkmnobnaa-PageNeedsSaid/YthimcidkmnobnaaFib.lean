/- Filling a page: the program's answer, whatever the page; and what the law calls new pages. -/
import Derived.Test.YthimcidkmnobnaaFil
namespace Go.Proofs.Ythimcidkmnobnaa
open Go.ChangeShapes Go.WideShapes Go.ChangeAt Go.RowKit

set_option maxHeartbeats 2000000 in
theorem fill_any (p : Pg) (s : Int) (data : ByteArray) (w : World) (hd : p.d.size ≤ maxLen) (hdat : data.size ≤ maxLen) :
    Calls Try.prog 24 #[p.val, .int .i64 s, .string data] w (RetW (.tuple #[(fillV p s data).1.val, .int .i64 (fillV p s data).2]) w) := by
  have hch := check_any p
  have hss := set_any s
  have HR : Hid (fillV p s data = if chk p = true then (if isSet s = true ∧ data.size = 16 then (⟨mk16 (fillX p.d data (wants s p.v 1) (wants s p.v 2)), bits .or .i64 p.v s, p.e⟩, 0) else (noPg, 2)) else (noPg, 1)) := rfl
  by_cases hc : chk p = true
  · by_cases hs : isSet s = true ∧ data.size = 16
    · have := fill_good p.d data p.v p.e s w hc hs.1 (chk_size hc) hs.2
      rw [HR.out, if_pos hc, if_pos hs]
      exact this
    · rw [hc] at hch
      rw [if_pos hc, if_neg hs] at HR
      have HN := Lib.hid hs
      clear hs hc
      generalize fillV p s data = r at *
      obtain ⟨d, v, e⟩ := p
      simp only [Pg.val] at hch hd HR ⊢
      have HC := Lib.hid hch; clear hch
      cases hs : isSet s with
      | false =>
        rw [hs] at hss
        have HS := Lib.hid hss; clear hss hs
        go_enter Try.func24, Try.ntmps24
        go_wp2_with (first | (go_at_call 16; refine (HC.out _ hd).mono ?_; rintro e w' ⟨rfl, hb⟩; obtain ⟨hcc, hff⟩ := bcell hb; have hz : w.heap.size + 1 < w'.heap.size := (by have := hb.size; simp at this; omega)) | (go_at_call 39; refine (HS.out _).mono ?_; rintro e w' ⟨rfl, rfl⟩))
        refine bodyPost_ret (v := .tuple #[.agg #[.string ⟨#[]⟩, .int .i64 0, .int .i64 0], .int .i64 2]) (by simp [results, Try.results24, go_sem, hcc, hz]) rfl ⟨by rw [HR.out]; rfl, ?_⟩
        have h1 : Below w.heap.size w w' := (((Below.refl _ _).alloc (Nat.le_refl _) _).alloc (by simp) _).trans (hb.mono (by simp; omega))
        exact (((h1.setCell (p := ⟨w.heap.size + 1, 0, none⟩) (by simp) _).setCell (p := ⟨w.heap.size + 1, 1, none⟩) (by simp) _).setCell (p := ⟨w.heap.size + 1, 2, none⟩) (by simp) _)
      | true =>
        have hne : ¬ data.size = 16 := fun h => HN.out ⟨hs, h⟩
        have hq : ((data.size : Int) != 16) = true := by simp; omega
        have hq1 : ¬ ((data.size : Int) = 16) := by omega
        rw [hs] at hss
        have HS := Lib.hid hss; clear hss hs hne HN
        go_enter Try.func24, Try.ntmps24
        go_wp2_with (first | (go_at_call 16; refine (HC.out _ hd).mono ?_; rintro e w' ⟨rfl, hb⟩; obtain ⟨hcc, hff⟩ := bcell hb; have hz : w.heap.size + 1 < w'.heap.size := (by have := hb.size; simp at this; omega)) | (go_at_call 39; refine (HS.out _).mono ?_; rintro e w' ⟨rfl, rfl⟩))
        refine bodyPost_ret (v := .tuple #[.agg #[.string ⟨#[]⟩, .int .i64 0, .int .i64 0], .int .i64 2]) (by simp [results, Try.results24, go_sem, hcc, hz]) rfl ⟨by rw [HR.out]; rfl, ?_⟩
        have h1 : Below w.heap.size w w' := (((Below.refl _ _).alloc (Nat.le_refl _) _).alloc (by simp) _).trans (hb.mono (by simp; omega))
        exact (((h1.setCell (p := ⟨w.heap.size + 1, 0, none⟩) (by simp) _).setCell (p := ⟨w.heap.size + 1, 1, none⟩) (by simp) _).setCell (p := ⟨w.heap.size + 1, 2, none⟩) (by simp) _)
  · rw [if_neg hc] at HR
    have hc' : chk p = false := by simpa using hc
    rw [hc'] at hch
    clear hc hc' hss
    generalize fillV p s data = r at *
    obtain ⟨d, v, e⟩ := p
    simp only [Pg.val] at hch hd HR ⊢
    have HC := Lib.hid hch; clear hch
    go_enter Try.func24, Try.ntmps24
    go_wp2_with (go_at_call 16; refine (HC.out _ hd).mono ?_; rintro e w' ⟨rfl, hb⟩; obtain ⟨hcc, hff⟩ := bcell hb; have hz : w.heap.size + 1 < w'.heap.size := (by have := hb.size; simp at this; omega))
    refine bodyPost_ret (v := .tuple #[.agg #[.string ⟨#[]⟩, .int .i64 0, .int .i64 0], .int .i64 1]) (by simp [results, Try.results24, go_sem, hcc, hz]) rfl ⟨by rw [HR.out]; rfl, ?_⟩
    have h1 : Below w.heap.size w w' := (((Below.refl _ _).alloc (Nat.le_refl _) _).alloc (by simp) _).trans (hb.mono (by simp; omega))
    exact (((h1.setCell (p := ⟨w.heap.size + 1, 0, none⟩) (by simp) _).setCell (p := ⟨w.heap.size + 1, 1, none⟩) (by simp) _).setCell (p := ⟨w.heap.size + 1, 2, none⟩) (by simp) _)
end Go.Proofs.Ythimcidkmnobnaa
