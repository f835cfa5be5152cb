/- The tape's strings and numbers about limits. -/
import Derived.Test.YtflcbefomjlgmaaTape
import Derived.LoopTactic
set_option linter.unusedSimpArgs false
set_option linter.unusedVariables false
namespace Go.Proofs.Ytflcbefomjlgmaa
open Go.ChangeShapes Go.WideShapes Go.ChangeAt Go.RowKit

/-- block t holds the tape, wherever it has come to -/
def TP (w0 : World) (t : Nat) (a : Option Addr) (len cap : Nat) (w : World) : Prop := ∃ k, TapeAt w0 w t a len cap k
/-- of the blocks that there were only block t has changed -/
structure Tock (t : Nat) (w w' : World) : Prop where
  os : w'.os = w.os
  tape : w'.tape = w.tape
  output : w'.output = w.output
  size : w.heap.size ≤ w'.heap.size
  block : ∀ k, k ≠ t → k < w.heap.size → w'.heap[k]? = w.heap[k]?
theorem Tock.refl (t : Nat) (w : World) : Tock t w w := ⟨rfl, rfl, rfl, Nat.le_refl _, fun _ _ _ => rfl⟩
theorem Tick.tock {t : Nat} {w w' : World} (h : Tick t w w') : Tock t w w' := ⟨h.os, h.tape, h.output, Nat.le_of_eq h.size.symm, fun k hk _ => h.block k hk⟩
theorem Tock.ofBelow {t B : Nat} {w w' : World} (h : Below B w w') (hB : w.heap.size ≤ B) : Tock t w w' := ⟨h.os, h.tape, h.output, h.size, fun k _ hk => h.block k (Nat.lt_of_lt_of_le hk hB)⟩
theorem Tock.trans {t : Nat} {w w1 w2 : World} (h1 : Tock t w w1) (h2 : Tock t w1 w2) : Tock t w w2 :=
  ⟨h2.os.trans h1.os, h2.tape.trans h1.tape, h2.output.trans h1.output, Nat.le_trans h1.size h2.size, fun k hk hl => (h2.block k hk (Nat.lt_of_lt_of_le hl h1.size)).trans (h1.block k hk hl)⟩
theorem Tock.cell {t : Nat} {w w' : World} (h : Tock t w w') {b o : Nat} (hb : b ≠ t) (hl : b < w.heap.size) : w'.cell? ⟨b, o, none⟩ = w.cell? ⟨b, o, none⟩ := World.cell?_of_block (w := w) (a := ⟨b, o, none⟩) (h.block b hb hl)
theorem Tock.frozen {t : Nat} {w w' : World} (h : Tock t w w') {b o : Nat} (hb : b ≠ t) (hl : b < w.heap.size) : w'.frozen? ⟨b, o, none⟩ = w.frozen? ⟨b, o, none⟩ := World.frozen?_of_block (w := w) (a := ⟨b, o, none⟩) (h.block b hb hl)
theorem TP.bel {w0 w : World} {t : Nat} {a : Option Addr} {len cap : Nat} (h : TP w0 t a len cap w) : Below w0.heap.size w0 w := h.choose_spec.bel
theorem TP.lo {w0 w : World} {t : Nat} {a : Option Addr} {len cap : Nat} (h : TP w0 t a len cap w) : w0.heap.size ≤ t := h.choose_spec.lo
theorem TP.hi {w0 w : World} {t : Nat} {a : Option Addr} {len cap : Nat} (h : TP w0 t a len cap w) : t < w.heap.size := h.choose_spec.hi
theorem TP.below {w0 w w' : World} {t : Nat} {a : Option Addr} {len cap B : Nat} (h : TP w0 t a len cap w) (hb : Below B w w') (hB : t < B) : TP w0 t a len cap w' := by
  obtain ⟨k, h⟩ := h
  exact ⟨k, h.below hb hB⟩
theorem next_tp (n : Int) (w0 w : World) (t : Nat) (a : Option Addr) (len cap : Nat) (hn : 1 ≤ n) (hn2 : n ≤ 1000000) (h : TP w0 t a len cap w) :
    Calls Try.prog 8 #[.pointer (some ⟨t, 0, none⟩), .int .i64 n] w fun e w' => ∃ r : Int, 0 ≤ r ∧ r < n ∧ e = .returned (.int .i64 r) ∧ Tick t w w' ∧ TP w0 t a len cap w' := by
  obtain ⟨k, h⟩ := h
  exact (next_any n w0 w t a len cap k hn hn2 h).mono fun e w' ⟨r, h0, h1, he, ht, hk⟩ => ⟨r, h0, h1, he, ht, _, hk⟩

def odds : List Int := [0, 1, 2, 3, 4, 7, 8, 15, 16, 63, 64, 128, 255, 256, -1, 1000000, 1000001, 4611686018427387904, -9223372036854775808]
theorem odds_at (r : Int) (h0 : 0 ≤ r) (h1 : r < 19) : ∃ z : Int, -9223372036854775808 ≤ z ∧ z ≤ 9223372036854775807 ∧ (odds.map (Value.int .i64)).toArray[r.toNat]? = some (.int .i64 z) := by
  obtain ⟨k, rfl⟩ := Int.eq_ofNat_of_zero_le h0
  have hk : k < odds.length := by show k < 19; omega
  have hb : ∀ z ∈ odds, -9223372036854775808 ≤ z ∧ z ≤ 9223372036854775807 := by decide
  refine ⟨odds[k], (hb _ (List.getElem_mem hk)).1, (hb _ (List.getElem_mem hk)).2, ?_⟩
  simp [List.getElem?_eq_getElem hk]

set_option maxHeartbeats 1000000 in
theorem odd_any (w0 w : World) (t : Nat) (a : Option Addr) (len cap : Nat) (h : TP w0 t a len cap w) :
    Calls Try.prog 9 #[.pointer (some ⟨t, 0, none⟩)] w fun e w' => ∃ r : Int, -9223372036854775808 ≤ r ∧ r ≤ 9223372036854775807 ∧ e = .returned (.int .i64 r) ∧ Tock t w w' ∧ TP w0 t a len cap w' := by
  have hlo := h.lo
  have hhi := h.hi
  have hall := fun (C : Array Value) => h.below ((Below.refl w.heap.size w).alloc (Nat.le_refl _) (.cells C 3)) h.hi
  have HT : ∀ C, C = (odds.map (Value.int .i64)).toArray → Hid (TP w0 t a len cap (w.alloc (.cells C 3)) ∧ ∀ r : Int, 0 ≤ r → r < 19 → ∃ z : Int, -9223372036854775808 ≤ z ∧ z ≤ 9223372036854775807 ∧ C[r.toNat]? = some (.int .i64 z)) := by
    rintro C rfl
    exact ⟨hall _, odds_at⟩
  have HTT := Lib.hid HT
  clear HT hall h
  go_enter Try.func9, Try.ntmps9
  go_wp2_with fail
  have HC := HTT.out #[.int .i64 0, .int .i64 1, .int .i64 2, .int .i64 3, .int .i64 4, .int .i64 7, .int .i64 8, .int .i64 15, .int .i64 16, .int .i64 63, .int .i64 64, .int .i64 128, .int .i64 255, .int .i64 256, .int .i64 (-1), .int .i64 1000000, .int .i64 1000001, .int .i64 4611686018427387904, .int .i64 (-9223372036854775808)] rfl
  generalize (#[.int .i64 0, .int .i64 1, .int .i64 2, .int .i64 3, .int .i64 4, .int .i64 7, .int .i64 8, .int .i64 15, .int .i64 16, .int .i64 63, .int .i64 64, .int .i64 128, .int .i64 255, .int .i64 256, .int .i64 (-1), .int .i64 1000000, .int .i64 1000001, .int .i64 4611686018427387904, .int .i64 (-9223372036854775808)] : Array Value) = C at HC ⊢
  clear HTT
  refine (next_tp 19 _ _ _ _ _ _ (by omega) (by omega) HC.out.1).mono ?_
  rintro e w' ⟨r, hr0, hr1, rfl, htk, htp⟩
  obtain ⟨z, hz0, hz1, hz⟩ := HC.out.2 r hr0 hr1
  have hcell : w'.cell? ⟨w.heap.size, r.toNat, none⟩ = some (.int .i64 z) := by
    rw [htk.cell (by omega), World.cell?_alloc_mark]; exact hz
  have HTK := Lib.hid htk
  have HTP := Lib.hid htp
  clear htk htp HC hz
  go_wp2_with fail
  go_ret
  exact ⟨z, hz0, hz1, rfl, (Tock.ofBelow ((Below.refl w.heap.size w).alloc (Nat.le_refl _) _) (Nat.le_refl _)).trans HTK.out.tock, HTP.out⟩
end Go.Proofs.Ytflcbefomjlgmaa
