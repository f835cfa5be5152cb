/- Reading and writing as the document has it. -/
import Derived.Test.YthimcidkmnobnaaCln
namespace Go.Proofs.Ythimcidkmnobnaa
open Go.ChangeShapes Go.WideShapes Go.ChangeAt Go.RowKit

set_option maxHeartbeats 2000000 in
theorem readR_any (p : Pg) (off n : Int) (w : World) (hd : p.d.size ≤ maxLen) (hl : -9223372036854775808 ≤ off) (hh : off ≤ 9223372036854775807) :
    Calls Try.prog 15 #[p.val, .int .i64 off, .int .i64 n] w (RetW (.tuple #[.string (readV p off n).1, .int .i64 (readV p off n).2]) w) := by
  have hch := needsR_any p off n false
  have hcs := readyV_cases p off n false
  have HR : Hid (readV p off n = if readyV p off n false = 0 then (p.d.extract off.toNat (off + n).toNat, 0) else (⟨#[]⟩, readyV p off n false)) := rfl
  have hz : readyV p off n false = 0 → p.d.size = 16 ∧ 0 ≤ off ∧ 0 ≤ n ∧ off ≤ 16 ∧ n ≤ 16 - off := fun h => ⟨chk_size (ready_zero h).1, rng_iff.1 (ready_zero h).2.1⟩
  generalize readyV p off n false = z at *
  generalize needV p off n false = r at *
  generalize readV p off n = rr at *
  obtain ⟨a, b⟩ := r
  obtain ⟨d, v, e⟩ := p
  simp only [Pg.val] at hch hd HR hcs hz ⊢
  have HC := Lib.hid hch; clear hch
  rcases hcs with ⟨rfl, rfl, rfl⟩ | ⟨rfl, ha, rfl⟩ | ⟨rfl, rfl⟩ | ⟨rfl, rfl⟩
  · obtain ⟨hsz, r0, r1, r2, r3⟩ := hz rfl
    have hsz' : 16 ≤ d.size := by omega
    clear hz hsz
    go_enter Try.func15, Try.ntmps15
    go_wp2_with (go_at_call 13; refine (HC.out _ hd hl hh).mono ?_; rintro e w' ⟨rfl, hb⟩; obtain ⟨hcc, hff⟩ := bcell hb)
    go_ret2
    rw [HR.out]
    exact ⟨rfl, ((Below.refl _ _).alloc (Nat.le_refl _) _).trans (hb.mono (by simp))⟩
  all_goals
    clear hz
    go_enter Try.func15, Try.ntmps15
    go_wp2_with (go_at_call 13; refine (HC.out _ hd hl hh).mono ?_; rintro e w' ⟨rfl, hb⟩; obtain ⟨hcc, hff⟩ := bcell hb)
    go_ret2
    rw [HR.out]
    exact ⟨rfl, ((Below.refl _ _).alloc (Nat.le_refl _) _).trans (hb.mono (by simp))⟩

set_option maxHeartbeats 2000000 in
theorem writeR_any (p : Pg) (off : Int) (s : ByteArray) (w : World) (hd : p.d.size ≤ maxLen) (hs : s.size ≤ maxLen) (hl : -9223372036854775808 ≤ off) (hh : off ≤ 9223372036854775807) :
    Calls Try.prog 27 #[p.val, .int .i64 off, .string s] w (RetW (.tuple #[(writeV p off s).1.val, .int .i64 (writeV p off s).2]) w) := by
  have hch := needsR_any p off s.size true
  have hcs := readyV_cases p off s.size true
  by_cases hz : readyV p off s.size true = 0
  · obtain ⟨z1, z2, _⟩ := ready_zero hz
    have hsz := chk_size z1
    obtain ⟨r0, r1, r2, r3⟩ := rng_iff.1 z2
    have HR : Hid (writeV p off s = (writeP p off s, 0)) := by unfold Hid writeV; rw [if_pos hz]
    unfold writeP at HR
    have hnn : needV p off s.size true = (0, 0) := by
      rcases hcs with ⟨h1, h2, _⟩ | ⟨_, _, h3⟩ | ⟨_, h3⟩ | ⟨_, h3⟩
      · exact Prod.ext h2 h1
      all_goals (rw [hz] at h3; exact absurd h3 (by decide))
    rw [hnn] at hch
    clear hcs hnn
    have htc := fun w => touchedR_any off s.size w r0 r1 (by omega)
    generalize sb (tA off s.size) (tB off s.size) = tt at *
    generalize sb (cA off s.size) (cB off s.size) = uu at *
    generalize writeV p off s = r at *
    obtain ⟨d, v, e⟩ := p
    simp only [Pg.val] at hch hd HR hsz ⊢
    have HC := Lib.hid hch; have HT := Lib.hid htc; clear hch hz z1 z2 htc
    have hsz' : 16 ≤ d.size := by omega
    have HS := Lib.hid hsz
    unfold maxLen at hs
    have hl1 : (d.extract 0 off.toNat).size + s.size ≤ 9223372036854775807 := by simp; omega
    have hl2 : (d.extract 0 off.toNat ++ s).size + (d.extract (off + s.size).toNat d.size).size ≤ 9223372036854775807 := by simp; omega
    have b1 : off ≤ (d.size : Int) := by omega
    have b2 : off + (s.size : Int) ≤ (d.size : Int) := by omega
    have b3 : 0 ≤ off + (s.size : Int) := by omega
    have b4 : IntKind.i64.wrap (off + (s.size : Int)) = off + (s.size : Int) := IntWalk.i64_in _ (by omega)
    have b5 : ¬ 9223372036854775807 < off.toNat + s.size := by omega
    have b6 : ¬ 9223372036854775807 < off.toNat + s.size + (d.size - (off + (s.size : Int)).toNat) := by omega
    clear hsz
    go_enter Try.func27, Try.ntmps27
    go_wp2_with (first | (go_at_call 13; refine (HC.out _ hd hl hh).mono ?_; rintro e w' ⟨rfl, hb⟩; obtain ⟨hcc, hff⟩ := bcell hb) | (go_at_call 37; refine (HT.out _).mono ?_; rintro e w' ⟨rfl, rfl⟩))
    go_still_tail 23, (by kernel_rfl)
    change wpList _ _ _ _ _ w'.drew
    have hz : w.heap.size + 1 < w'.heap.size := by have := hb.size; simp at this; omega
    go_wp2_with fail
    refine bodyPost_ret (v := .tuple #[.agg #[.string (d.extract 0 off.toNat ++ s ++ d.extract (off + s.size).toNat d.size), .int .i64 (bits .or .i64 v tt), .int .i64 (bits .or .i64 e tt)], .int .i64 0]) (by simp [results, Try.results27, go_sem, hcc, hz]) rfl ⟨by rw [HR.out], ?_⟩
    have h1 : Below w.heap.size w w' := (((Below.refl _ _).alloc (Nat.le_refl _) _).alloc (by simp) _).trans (hb.mono (by simp; omega))
    exact (((h1.setCell (p := ⟨w.heap.size + 1, 0, none⟩) (by simp) _).setCell (p := ⟨w.heap.size + 1, 1, none⟩) (by simp) _).setCell (p := ⟨w.heap.size + 1, 2, none⟩) (by simp) _).drew
  · have HR : Hid (writeV p off s = (noPg, readyV p off s.size true)) := by unfold Hid writeV; rw [if_neg hz]
    generalize readyV p off s.size true = z at *
    generalize writeV p off s = r at *
    generalize needV p off s.size true = q at *
    obtain ⟨a, b⟩ := q
    obtain ⟨d, v, e⟩ := p
    simp only [Pg.val] at hch hd HR hcs ⊢
    have HC := Lib.hid hch; clear hch
    unfold maxLen at hs
    rcases hcs with ⟨rfl, rfl, rfl⟩ | ⟨rfl, ha, rfl⟩ | ⟨rfl, rfl⟩ | ⟨rfl, rfl⟩
    · exact absurd rfl hz
    all_goals
      go_enter Try.func27, Try.ntmps27
      go_wp2_with (go_at_call 13; refine (HC.out _ hd hl hh).mono ?_; rintro e w' ⟨rfl, hb⟩; obtain ⟨hcc, hff⟩ := bcell hb; have hz : w.heap.size + 1 < w'.heap.size := (by have := hb.size; simp at this; omega))
      refine bodyPost_ret (v := .tuple #[.agg #[.string ⟨#[]⟩, .int .i64 0, .int .i64 0], .int .i64 _]) (by simp [results, Try.results27, go_sem, hcc, hz]; try rfl) rfl ⟨by rw [HR.out]; rfl, ?_⟩
      have h1 : Below w.heap.size w w' := (((Below.refl _ _).alloc (Nat.le_refl _) _).alloc (by simp) _).trans (hb.mono (by simp; omega))
      exact (((h1.setCell (p := ⟨w.heap.size + 1, 0, none⟩) (by simp) _).setCell (p := ⟨w.heap.size + 1, 1, none⟩) (by simp) _).setCell (p := ⟨w.heap.size + 1, 2, none⟩) (by simp) _)
end Go.Proofs.Ythimcidkmnobnaa
