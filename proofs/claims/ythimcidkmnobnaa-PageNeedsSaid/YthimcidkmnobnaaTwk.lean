/- The tape's strings, its numbers about limits, and the pages that it makes: the walks. -/
import Derived.Test.YthimcidkmnobnaaTap
import Derived.Test.YthimcidkmnobnaaBase
import Derived.LoopTactic
namespace Go.Proofs.Ythimcidkmnobnaa
open Go.ChangeShapes Go.WideShapes Go.ChangeAt Go.RowKit

set_option maxHeartbeats 1000000 in
theorem bytes_any (n : Nat) (w0 w : World) (t : Nat) (a : Option Addr) (len cap : Nat) (hn : n ≤ 1000) (h : TP w0 t a len cap w) :
    Calls Try.prog 23 #[.pointer (some ⟨t, 0, none⟩), .int .i64 n] w fun e w' => ∃ s : ByteArray, s.size = n ∧ e = .returned (.string s) ∧ Tock t w w' ∧ TP w0 t a len cap w' := by
  have hmk := make_bytes (n : Int) (by omega) (by omega)
  rw [show ((n : Int)).toNat = n from by omega] at hmk
  have hst := BInv.start n h
  have HST := Lib.hid hst
  clear hst
  go_enter Try.func23, Try.ntmps23
  go_wp2_with fail
  go_loopw [11] (fun i wr => ∃ k : Nat, k ≤ n ∧ i = .int .i64 k ∧ ∃ l : List UInt8, l.length = k ∧ BInv w0 w t a len cap n l wr) (fun i _ => n - (intOf i).toNat)
  case atStart => exact ⟨0, Nat.zero_le _, rfl, [], rfl, HST.out⟩
  case round =>
    obtain ⟨k, hk, rfl, l, hl, hinv⟩ := hrel
    have HL := Lib.hid hl
    clear hl
    by_cases hlt : k < n
    · have htp := hinv.tp
      go_wp2_with (go_at_call 10; refine (next_tp 8 _ _ _ _ _ _ (by omega) (by omega) htp).mono ?_; rintro e w' ⟨r, hr0, hr1, rfl, htk, htp'⟩; have hinv' := hinv.tick htk htp'; have c0 := hinv'.cell k hlt; have f0 := hinv'.free k)
      go_roundw
      case rel => exact ⟨k + 1, by omega, by go_num, l ++ [_], by simp [HL.out], hinv'.set k hlt HL.out _⟩
      case measure => simp [intOf]; omega
    · obtain rfl : k = n := by omega
      have hcv := hinv.conv HL.out
      go_wp2_with fail
      go_ret
      refine ⟨⟨l.toArray⟩, ?_, rfl, hinv.tk, hinv.tp⟩
      rw [← HL.out]; rfl

/-- the numbers about limits -/
def odds : List Int := [0, 1, 2, 3, 4, 7, 8, 15, 16, 63, 64, 128, 255, 256, -1, 1000000, 1000001, 4611686018427387904, -9223372036854775808]
theorem odds_at (r : Int) (h0 : 0 ≤ r) (h1 : r < 19) : ∃ z : Int, -9223372036854775808 ≤ z ∧ z ≤ 9223372036854775807 ∧ (odds.map (Value.int .i64)).toArray[r.toNat]? = some (.int .i64 z) := by
  obtain ⟨k, rfl⟩ := Int.eq_ofNat_of_zero_le h0
  have hk : k < odds.length := by show k < 19; omega
  have hb : ∀ z ∈ odds, -9223372036854775808 ≤ z ∧ z ≤ 9223372036854775807 := by decide
  refine ⟨odds[k], (hb _ (List.getElem_mem hk)).1, (hb _ (List.getElem_mem hk)).2, ?_⟩
  simp [List.getElem?_eq_getElem hk]

set_option maxHeartbeats 1000000 in
theorem odd_any (w0 w : World) (t : Nat) (a : Option Addr) (len cap : Nat) (h : TP w0 t a len cap w) :
    Calls Try.prog 11 #[.pointer (some ⟨t, 0, none⟩)] w fun e w' => ∃ r : Int, -9223372036854775808 ≤ r ∧ r ≤ 9223372036854775807 ∧ e = .returned (.int .i64 r) ∧ Tock t w w' ∧ TP w0 t a len cap w' := by
  have hlo := h.lo
  have hhi := h.hi
  have hall := fun (C : Array Value) => h.below ((Below.refl w.heap.size w).alloc (Nat.le_refl _) (.cells C 3)) h.hi
  have HT : ∀ C, C = (odds.map (Value.int .i64)).toArray → Hid (TP w0 t a len cap (w.alloc (.cells C 3)) ∧ ∀ r : Int, 0 ≤ r → r < 19 → ∃ z : Int, -9223372036854775808 ≤ z ∧ z ≤ 9223372036854775807 ∧ C[r.toNat]? = some (.int .i64 z)) := by
    rintro C rfl
    exact ⟨hall _, odds_at⟩
  have HTT := Lib.hid HT
  clear HT hall h
  go_enter Try.func11, Try.ntmps11
  go_wp2_with fail
  have HC := HTT.out #[.int .i64 0, .int .i64 1, .int .i64 2, .int .i64 3, .int .i64 4, .int .i64 7, .int .i64 8, .int .i64 15, .int .i64 16, .int .i64 63, .int .i64 64, .int .i64 128, .int .i64 255, .int .i64 256, .int .i64 (-1), .int .i64 1000000, .int .i64 1000001, .int .i64 4611686018427387904, .int .i64 (-9223372036854775808)] rfl
  generalize (#[.int .i64 0, .int .i64 1, .int .i64 2, .int .i64 3, .int .i64 4, .int .i64 7, .int .i64 8, .int .i64 15, .int .i64 16, .int .i64 63, .int .i64 64, .int .i64 128, .int .i64 255, .int .i64 256, .int .i64 (-1), .int .i64 1000000, .int .i64 1000001, .int .i64 4611686018427387904, .int .i64 (-9223372036854775808)] : Array Value) = C at HC ⊢
  clear HTT
  refine (next_tp 19 _ _ _ _ _ _ (by omega) (by omega) HC.out.1).mono ?_
  rintro e w' ⟨r, hr0, hr1, rfl, htk, htp⟩
  obtain ⟨z, hz0, hz1, hz⟩ := HC.out.2 r hr0 hr1
  have hcell : w'.cell? ⟨w.heap.size, r.toNat, none⟩ = some (.int .i64 z) := by
    rw [htk.cell (by omega), World.cell?_alloc_mark]; exact hz
  have HTK := Lib.hid htk
  have HTP := Lib.hid htp
  clear htk htp HC hz
  go_wp2_with fail
  go_ret
  exact ⟨z, hz0, hz1, rfl, (Tock.ofBelow ((Below.refl w.heap.size w).alloc (Nat.le_refl _) _) (Nat.le_refl _)).trans HTK.out.tock, HTP.out⟩
end Go.Proofs.Ythimcidkmnobnaa
