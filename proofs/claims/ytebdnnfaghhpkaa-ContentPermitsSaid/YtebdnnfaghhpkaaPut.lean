/- Contents of files: the program's reading, writing, truncating and punching. -/
import Derived.Test.YtebdnnfaghhpkaaBase
namespace Go.Proofs.Ytebdnnfaghhpkaa
open Go.ChangeShapes Go.WideShapes Go.ChangeAt Go.RowKit

theorem sizedS_size (s : ByteArray) (n : Nat) : (sizedS s n).size = n := by
  unfold sizedS
  split
  · simp; omega
  · rw [ByteArray.size_append, size_zeros]; omega
/-- b laid over s from off on -/
def putS (s : ByteArray) (off : Nat) (b : ByteArray) : ByteArray :=
  (sizedS s (max s.size (off + b.size))).extract 0 off ++ b ++ (sizedS s (max s.size (off + b.size))).extract (off + b.size) (max s.size (off + b.size))
set_option maxHeartbeats 1000000 in
theorem put_any (s : ByteArray) (off : Nat) (b : ByteArray) (w : World) (hs : s.size ≤ 100000) (ho : off ≤ 100000) (hb : b.size ≤ 100000) :
    Calls Try.prog 34 #[.string s, .int .i64 off, .string b] w (RetW (.string (putS s off b)) w) := by
  have HR : Hid (putS s off b = (sizedS s (max s.size (off + b.size))).extract 0 off ++ b ++ (sizedS s (max s.size (off + b.size))).extract (off + b.size) (sizedS s (max s.size (off + b.size))).size) := by
    unfold Hid putS
    rw [sizedS_size]
  have hsz := sizedS_size s (max s.size (off + b.size))
  have hcall := fun w => sized_any s (max s.size (off + b.size)) w (by omega) (by omega)
  have hm : ((max s.size (off + b.size) : Nat) : Int) = max (s.size : Int) ((off : Int) + b.size) := by omega
  rw [hm] at hcall
  generalize sizedS s (max s.size (off + b.size)) = t at *
  generalize putS s off b = r at *
  have h1 : (off : Int) ≤ (t.size : Int) := by omega
  have h2 : (off : Int) + (b.size : Int) ≤ (t.size : Int) := by omega
  have h4 : IntKind.i64.wrap ((off : Int) + (b.size : Int)) = (off : Int) + (b.size : Int) := IntWalk.i64_in _ (by omega)
  have h5 : ((off : Int) + (b.size : Int)).toNat = off + b.size := by omega
  have h6 : ¬ 9223372036854775807 < off + b.size := by omega
  have h7 : ¬ 9223372036854775807 < off + b.size + (t.size - (off + b.size)) := by omega
  have h8 : 0 ≤ (off : Int) + (b.size : Int) := by omega
  have h9 : off ≤ t.size := by omega
  have h10 : off + b.size ≤ t.size := by omega
  have HC := Lib.hid hcall
  clear hcall hm hsz
  go_enter Try.func34, Try.ntmps34
  go_wp2_with (go_at_call 36; refine (HC.out _).mono ?_; rintro e w' ⟨rfl, hb'⟩)
  go_quiet (fail)
  go_wp2_with fail
  go_ret
  exact RetW.mk (by rw [HR.out]; rfl) (below_drewN hb' _)
end Go.Proofs.Ytebdnnfaghhpkaa
