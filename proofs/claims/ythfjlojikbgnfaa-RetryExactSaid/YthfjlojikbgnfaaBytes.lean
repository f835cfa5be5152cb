/- Runs of bytes that this seat's texts share: make([]byte, n), string(b). -/
import Derived.Test.YthfjlojikbgnfaaKit
import Derived.Deep.OwnRows
namespace Go.Proofs.Ythfjlojikbgnfaa
open Go.ChangeShapes Go.WideShapes Go.ChangeAt Go.RowKit

/-- so many zero bytes -/
def zeros (n : Nat) : ByteArray := ⟨(List.replicate n (0 : UInt8)).toArray⟩
theorem size_zeros (n : Nat) : (zeros n).size = n := by simp [zeros, ByteArray.size]

theorem made_at (z : Value) (n j : Nat) (h : j < n) : (madeCells #[z] n)[j]? = some z := by
  unfold madeCells
  simp [h, Nat.mod_one]

theorem byte_info : (Try.prog.info? 5).map (fun i => (i.zero, i.size, i.bytes)) = some (some (.int .u8 0), 1, 1) := by kernel_rfl

/-- make([]byte, n) -/
theorem make_bytes (n : Int) (h0 : 0 ≤ n) (h1 : n ≤ 1000000) (w : World) :
    (Instr.makeSlice 65 (.int .i64 n) (.int .i64 n)).run Try.prog w = .ok (.slice (some ⟨w.heap.size, 0, none⟩) n.toNat n.toNat) (w.alloc (.cells (madeCells #[.int .u8 0] n.toNat) 5)) := by
  obtain ⟨k, rfl⟩ := Int.eq_ofNat_of_zero_le h0
  exact run_make_row' (P := Try.prog) 65 5 (.int .u8 0) 1 Try.underlying65 byte_info rfl .i64 .i64 k (by omega) (by omega) w

/-- string(b), b a row of bytes of its own block -/
theorem conv_bytes (w : World) (b n cap : Nat) (l : List UInt8) (hn : l.length = n) (hc : ∀ j (hj : j < l.length), w.cell? ⟨b, j, none⟩ = some (.int .u8 (l[j].toNat : Int))) :
    (convert 65 9 (.slice (some ⟨b, 0, none⟩) n cap)).run Try.prog w = .ok (.string ⟨l.toArray⟩) w := by
  subst hn
  refine run_convert_bytes_back (P := Try.prog) w 65 9 5 ⟨b, 0, none⟩ cap l Try.underlying65 Try.underlying5 Try.underlying9 ?_
  intro j hj
  have : (⟨b, 0, none⟩ : Addr).add j = ⟨b, j, none⟩ := by unfold Addr.add; split <;> simp_all
  rw [this]; exact hc j hj

/-- string(make([]byte, n)) -/
theorem conv_zeros (n : Nat) (w : World) :
    (convert 65 9 (.slice (some ⟨w.heap.size, 0, none⟩) n n)).run Try.prog (w.alloc (.cells (madeCells #[.int .u8 0] n) 5)) = .ok (.string (zeros n)) (w.alloc (.cells (madeCells #[.int .u8 0] n) 5)) := by
  refine conv_bytes _ _ n n (List.replicate n 0) (by simp) ?_
  intro j hj
  have hj' : j < n := by simpa using hj
  rw [World.cell?_alloc_mark, made_at _ _ _ hj']
  simp
end Go.Proofs.Ythfjlojikbgnfaa
