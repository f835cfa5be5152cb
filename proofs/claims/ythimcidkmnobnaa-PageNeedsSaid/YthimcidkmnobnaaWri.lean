/- Writing, cleaning and soiling: the program's answer. -/
import Derived.Test.YthimcidkmnobnaaNeed
namespace Go.Proofs.Ythimcidkmnobnaa
open Go.ChangeShapes Go.WideShapes Go.ChangeAt Go.RowKit

def noPg : Pg := ⟨⟨#[]⟩, 0, 0⟩
def writeP (p : Pg) (off : Int) (s : ByteArray) : Pg :=
  ⟨p.d.extract 0 off.toNat ++ s ++ p.d.extract (off + s.size).toNat p.d.size, bits .or .i64 p.v (sb (tA off s.size) (tB off s.size)), bits .or .i64 p.e (sb (tA off s.size) (tB off s.size))⟩
def writeV (p : Pg) (off : Int) (s : ByteArray) : Pg × Int := if readyV p off s.size true = 0 then (writeP p off s, 0) else (noPg, readyV p off s.size true)
theorem ret_pg {q : Pg × Int} {d : ByteArray} {v e x : Int} (h : q = (⟨d, v, e⟩, x)) : (Value.tuple #[.agg #[.string d, .int .i64 v, .int .i64 e], .int .i64 x]) = .tuple #[q.1.val, .int .i64 q.2] := by subst h; rfl

set_option maxHeartbeats 2000000 in
theorem write_any (p : Pg) (off : Int) (s : ByteArray) (w : World) (hd : p.d.size ≤ maxLen) (hs : s.size ≤ maxLen) :
    Calls Try.prog 26 #[p.val, .int .i64 off, .string s] w (RetW (.tuple #[(writeV p off s).1.val, .int .i64 (writeV p off s).2]) w) := by
  have hch := ready_any p off s.size true
  by_cases hz : readyV p off s.size true = 0
  · obtain ⟨z1, z2, _⟩ := ready_zero hz
    have hsz := chk_size z1
    obtain ⟨r0, r1, r2, r3⟩ := rng_iff.1 z2
    have HR : Hid (writeV p off s = (writeP p off s, 0)) := by unfold Hid writeV; rw [if_pos hz]
    unfold writeP at HR
    rw [hz] at hch
    have htc := fun w => touched_any off s.size w r0 r1 (by omega)
    generalize sb (tA off s.size) (tB off s.size) = tt at *
    generalize writeV p off s = r at *
    obtain ⟨d, v, e⟩ := p
    simp only [Pg.val] at hch hd HR hsz ⊢
    have HC := Lib.hid hch; have HT := Lib.hid htc; clear hch hz z1 z2 htc
    have hsz' : 16 ≤ d.size := by omega
    have HS := Lib.hid hsz
    unfold maxLen at hs
    have hl1 : (d.extract 0 off.toNat).size + s.size ≤ 9223372036854775807 := by simp; omega
    have hl2 : (d.extract 0 off.toNat ++ s).size + (d.extract (off + s.size).toNat d.size).size ≤ 9223372036854775807 := by simp; omega
    have b1 : off ≤ (d.size : Int) := by omega
    have b2 : off + (s.size : Int) ≤ (d.size : Int) := by omega
    have b3 : 0 ≤ off + (s.size : Int) := by omega
    have b4 : IntKind.i64.wrap (off + (s.size : Int)) = off + (s.size : Int) := IntWalk.i64_in _ (by omega)
    have b5 : ¬ 9223372036854775807 < off.toNat + s.size := by omega
    have b6 : ¬ 9223372036854775807 < off.toNat + s.size + (d.size - (off + (s.size : Int)).toNat) := by omega
    clear hsz
    go_enter Try.func26, Try.ntmps26
    go_wp2_with (first | (go_at_call 38; refine (HC.out _ hd).mono ?_; rintro e w' ⟨rfl, hb⟩; obtain ⟨hcc, hff⟩ := bcell hb) | (go_at_call 34; refine (HT.out _).mono ?_; rintro e w' ⟨rfl, rfl⟩))
    go_still_tail 23, (by kernel_rfl)
    change wpList _ _ _ _ _ w'.drew
    have hz : w.heap.size + 1 < w'.heap.size := by have := hb.size; simp at this; omega
    go_wp2_with fail
    refine bodyPost_ret (v := .tuple #[.agg #[.string (d.extract 0 off.toNat ++ s ++ d.extract (off + s.size).toNat d.size), .int .i64 (bits .or .i64 v tt), .int .i64 (bits .or .i64 e tt)], .int .i64 0]) (by simp [results, Try.results26, go_sem, hcc, hz]) rfl ⟨by rw [HR.out], ?_⟩
    have h1 : Below w.heap.size w w' := (((Below.refl _ _).alloc (Nat.le_refl _) _).alloc (by simp) _).trans (hb.mono (by simp; omega))
    exact (((h1.setCell (p := ⟨w.heap.size + 1, 0, none⟩) (by simp) _).setCell (p := ⟨w.heap.size + 1, 1, none⟩) (by simp) _).setCell (p := ⟨w.heap.size + 1, 2, none⟩) (by simp) _).drew
  · have HR : Hid (writeV p off s = (noPg, readyV p off s.size true)) := by unfold Hid writeV; rw [if_neg hz]
    generalize readyV p off s.size true = z at *
    generalize writeV p off s = r at *
    obtain ⟨d, v, e⟩ := p
    simp only [Pg.val] at hch hd HR ⊢
    have HC := Lib.hid hch; clear hch
    unfold maxLen at hs
    go_enter Try.func26, Try.ntmps26
    go_wp2_with (go_at_call 38; refine (HC.out _ hd).mono ?_; rintro e w' ⟨rfl, hb⟩; obtain ⟨hcc, hff⟩ := bcell hb)
    have hz : w.heap.size + 1 < w'.heap.size := by have := hb.size; simp at this; omega
    go_wp2_with fail
    refine bodyPost_ret (v := .tuple #[.agg #[.string ⟨#[]⟩, .int .i64 0, .int .i64 0], .int .i64 z]) (by simp [results, Try.results26, go_sem, hcc, hz]) rfl ⟨by rw [HR.out]; rfl, ?_⟩
    have h1 : Below w.heap.size w w' := (((Below.refl _ _).alloc (Nat.le_refl _) _).alloc (by simp) _).trans (hb.mono (by simp; omega))
    exact (((h1.setCell (p := ⟨w.heap.size + 1, 0, none⟩) (by simp) _).setCell (p := ⟨w.heap.size + 1, 1, none⟩) (by simp) _).setCell (p := ⟨w.heap.size + 1, 2, none⟩) (by simp) _)
end Go.Proofs.Ythimcidkmnobnaa
