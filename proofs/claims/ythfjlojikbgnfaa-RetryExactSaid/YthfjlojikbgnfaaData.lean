/- dock.Data: sectors of letters, as one function of its two numbers. -/
import Derived.Test.YthfjlojikbgnfaaBytes
namespace Go.Proofs.Ythfjlojikbgnfaa
open Go.ChangeShapes Go.WideShapes Go.ChangeAt Go.RowKit

/-- letter j of Data(n, ..) -/
def letter (n : Int) (j : Nat) : Int := 97 + rnd (wrap64 (wrap64 (n + (j : Int) / 4 * 7) + (j : Int) / 8 * 3)) 26
theorem letter_bd (n : Int) (j : Nat) : 97 ≤ letter n j ∧ letter n j ≤ 122 := by
  have := rnd_lo (wrap64 (wrap64 (n + (j : Int) / 4 * 7) + (j : Int) / 8 * 3)) 26 (by omega)
  have := rnd_hi (wrap64 (wrap64 (n + (j : Int) / 4 * 7) + (j : Int) / 8 * 3)) 26 (by omega)
  unfold letter; omega
/-- Data(n, c), c sectors of eight bytes -/
def dataL (n : Int) (c : Nat) : List UInt8 := (List.range (c * 8)).map fun j => UInt8.ofNat (letter n j).toNat
def dataS (n : Int) (c : Nat) : ByteArray := ⟨(dataL n c).toArray⟩
theorem dataL_length (n : Int) (c : Nat) : (dataL n c).length = c * 8 := by simp [dataL]
theorem dataS_size (n : Int) (c : Nat) : (dataS n c).size = c * 8 := by simp [dataS, ByteArray.size, dataL_length]

/-- the row of bytes after k rounds -/
structure DataInv (n : Int) (w : World) (N k : Nat) (wr : World) : Prop where
  bel : Below w.heap.size w wr
  hi : w.heap.size < wr.heap.size
  cell : ∀ j, j < N → wr.cell? ⟨w.heap.size, j, none⟩ = some (.int .u8 (if j < k then letter n j else 0))
  free : ∀ j, wr.frozen? ⟨w.heap.size, j, none⟩ = false
theorem DataInv.start (n : Int) (w : World) (N : Nat) : DataInv n w N 0 (w.alloc (.cells (madeCells #[.int .u8 0] N) 5)) := by
  refine ⟨(Below.refl _ _).alloc (Nat.le_refl _) _, by simp, fun j hj => ?_, fun j => ?_⟩
  · rw [World.cell?_alloc_mark, made_at _ _ _ hj]; simp
  · simp
theorem DataInv.step {n : Int} {w wr : World} {N k : Nat} (h : DataInv n w N k wr) (hk : k < N) {v : Int} (hv : v = letter n k) : DataInv n w N (k + 1) (wr.setCell ⟨w.heap.size, k, none⟩ (.int .u8 v)) := by
  subst hv
  refine ⟨h.bel.setCell (p := ⟨w.heap.size, k, none⟩) (Nat.le_refl _) _, by simpa [World.setCell] using h.hi, fun j hj => ?_, fun j => by rw [World.frozen?_setCell]; exact h.free j⟩
  by_cases e : j = k
  · subst e
    rw [World.cell?_setCell_same _ _ _ (h.cell j hj)]; simp
  · rw [World.cell?_setCell_other _ _ _ _ (by first | (simp; done) | (simp; omega)), h.cell j hj]
    by_cases h1 : j < k
    · rw [if_pos h1, if_pos (by omega)]
    · rw [if_neg h1, if_neg (by omega)]
theorem DataInv.conv {n : Int} {w wr : World} {c : Nat} (h : DataInv n w (c * 8) (c * 8) wr) :
    (convert 65 9 (.slice (some ⟨w.heap.size, 0, none⟩) (c * 8) (c * 8))).run Try.prog wr = .ok (.string (dataS n c)) wr := by
  refine conv_bytes wr w.heap.size (c * 8) (c * 8) (dataL n c) (dataL_length n c) ?_
  intro j hj
  have hj' : j < c * 8 := by rwa [dataL_length] at hj
  rw [h.cell j hj', if_pos hj']
  have b := letter_bd n j
  simp only [dataL, List.getElem_map, List.getElem_range]
  congr 2
  have : (UInt8.ofNat (letter n j).toNat).toNat = (letter n j).toNat := by
    rw [UInt8.toNat_ofNat']; omega
  rw [this]; omega

set_option maxHeartbeats 1000000 in
theorem data_pos (n : Int) (c : Nat) (w : World) (hc : c ≤ 1000) (h0 : 1 ≤ c) :
    Calls Try.prog 30 #[.int .i64 n, .int .i64 c] w (RetW (.string (dataS n c)) w) := by
  have hmk := make_bytes ((c : Int) * 8) (by omega) (by omega)
  have hN : ((c : Int) * 8).toNat = c * 8 := by omega
  rw [hN] at hmk
  have hp : (0 : Int) < (c : Int) := by omega
  go_enter Try.func30, Try.ntmps30
  go_wp2_with fail
  go_loopw [6] (fun i wr => ∃ k : Nat, k ≤ c * 8 ∧ i = .int .i64 k ∧ DataInv n w (c * 8) k wr) (fun i _ => c * 8 - (intOf i).toNat)
  case atStart => exact ⟨0, Nat.zero_le _, rfl, DataInv.start n w (c * 8)⟩
  case round =>
    obtain ⟨k, hk, rfl, hinv⟩ := hrel
    by_cases hlt : k < c * 8
    · have hck : wr.cell? ⟨w.heap.size, k, none⟩ = some (.int .u8 0) := by rw [hinv.cell k hlt]; simp
      have hfk := hinv.free k
      go_wp2_with fail
      refine (round_any _ _ _ (by omega) (by omega)).mono ?_
      rintro e w' ⟨rfl, rfl⟩
      have hb := letter_bd n k
      have HR : Hid (97 + rnd (wrap64 (wrap64 (n + (k : Int) / 4 * 7) + (k : Int) / 8 * 3)) 26 = letter n k) := rfl
      have r0 := rnd_lo (wrap64 (wrap64 (n + (k : Int) / 4 * 7) + (k : Int) / 8 * 3)) 26 (by omega)
      have r1 := rnd_hi (wrap64 (wrap64 (n + (k : Int) / 4 * 7) + (k : Int) / 8 * 3)) 26 (by omega)
      generalize rnd (wrap64 (wrap64 (n + (k : Int) / 4 * 7) + (k : Int) / 8 * 3)) 26 = r at HR r0 r1 ⊢
      have u1 : IntKind.u8.wrap r = r := by show r % 256 = r; omega
      have u2 : IntKind.u8.wrap (97 + r) = 97 + r := by show (97 + r) % 256 = 97 + r; omega
      go_wp2_with fail
      go_roundw
      case rel => exact ⟨k + 1, by omega, by go_num, hinv.step hlt HR.out⟩
      case measure => simp [intOf]; omega
    · obtain rfl : k = c * 8 := by omega
      have hcv := hinv.conv
      go_wp2_with fail
      go_ret
      exact RetW.mk rfl hinv.bel

theorem data_nil (n : Int) (w : World) :
    Calls Try.prog 30 #[.int .i64 n, .int .i64 0] w (RetW (.string (dataS n 0)) w) := by
  have hmk := make_bytes 0 (by omega) (by omega)
  have hcv := conv_zeros 0
  go_enter Try.func30, Try.ntmps30
  go_wp2_with fail
  go_loop [6] (fun i => i = .int .i64 0) (fun _ => 0)
  case atStart => rfl
  case round =>
    obtain rfl := hrel
    go_wp2_with fail
    go_ret
    exact RetW.mk (by rfl) ((Below.refl _ _).alloc (Nat.le_refl _) _)

theorem data_any (n : Int) (c : Nat) (w : World) (hc : c ≤ 1000) :
    Calls Try.prog 30 #[.int .i64 n, .int .i64 c] w (RetW (.string (dataS n c)) w) := by
  rcases Nat.eq_zero_or_pos c with rfl | h
  · exact data_nil n w
  · exact data_pos n c w hc h
end Go.Proofs.Ythfjlojikbgnfaa
