/- Contracts of layer 35: the small functions. -/
import Derived.Test.YtppkbifhhpakgaaBytes
import Derived.Test.YtppkbifhhpakgaaShelf
namespace Go.Proofs.Ytppkbifhhpakgaa
open Go.ChangeShapes Go.WideShapes Go.ChangeAt Go.RowKit

def fitB (c : Int) : Bool := decide (0 ≤ c) && decide (c ≤ 128)
theorem fit_bd {c : Int} (h : fitB c = true) : 0 ≤ c ∧ c ≤ 128 := by unfold fitB at h; simp at h; omega

set_option maxHeartbeats 400000 in
theorem spec_any (i t d k s c : Int) (D : ByteArray) (p f : Bool) (m : Int) (w : World) :
    Calls Try.prog 16 #[.agg #[.int .i64 i, .int .i64 t, .int .i64 d, .int .i64 k, .int .i64 s, .int .i64 c, .string D, .bool p, .bool f, .int .i64 m]] w fun e w' => e = .returned (.bool (fitB c)) ∧ w.alloc (.cells #[.int .i64 i, .int .i64 t, .int .i64 d, .int .i64 k, .int .i64 s, .int .i64 c, .string D, .bool p, .bool f, .int .i64 m] 23) = w' := by
  go_enter Try.func16, Try.ntmps16
  go_wp2
  all_goals
    go_ret
    exact ⟨by unfold fitB; simp [*]; try omega, rfl⟩

set_option maxHeartbeats 400000 in
theorem fit_any (i t d k s c : Int) (D : ByteArray) (p f : Bool) (m : Int) (w : World) :
    Calls Try.prog 18 #[.agg #[.int .i64 i, .int .i64 t, .int .i64 d, .int .i64 k, .int .i64 s, .int .i64 c, .string D, .bool p, .bool f, .int .i64 m]] w fun e w' => e = .returned (.bool (fitB c)) ∧ w.alloc (.cells #[.int .i64 i, .int .i64 t, .int .i64 d, .int .i64 k, .int .i64 s, .int .i64 c, .string D, .bool p, .bool f, .int .i64 m] 23) = w' := by
  go_enter Try.func18, Try.ntmps18
  go_wp2
  all_goals
    go_ret
    exact ⟨by unfold fitB; simp [*]; try omega, rfl⟩

theorem rep_zero (c : Nat) : Lib.repeatL [0] c = List.replicate c (0 : UInt8) := by
  induction c with
  | zero => rfl
  | succ n ih => simp [Lib.repeatL, ih, List.replicate_succ]
theorem repeat_any (n : Int) (w : World) (h0 : 0 ≤ n) (h1 : n ≤ 1000000) :
    Calls Try.prog 17 #[.string ⟨#[0]⟩, .int .i64 n] w (RetW (.string (zeros n.toNat)) w) := by
  obtain ⟨c, rfl⟩ := Int.eq_ofNat_of_zero_le h0
  refine (Try.strings_Repeat ⟨#[0]⟩ c w (by omega) (by show 1 * c ≤ _; omega)).mono ?_
  rintro e w' ⟨rfl, hb⟩
  refine ⟨?_, hb⟩
  show Ending.returned (.string ⟨(Lib.repeatL [0] c).toArray⟩) = _
  rw [rep_zero]; rfl

set_option maxHeartbeats 400000 in
theorem zero_any (n : Int) (w : World) (h0 : 0 ≤ n) (h1 : n ≤ 128) :
    Calls Try.prog 19 #[.int .i64 n] w fun e w' => e = .returned (.string (zeros (n * 8).toNat)) ∧ w.alloc (.cells (madeCells #[.int .u8 0] (n * 8).toNat) 5) = w' := by
  have hmk := make_bytes (n * 8) (by omega) (by omega)
  have hcv := conv_zeros (n * 8).toNat
  go_enter Try.func19, Try.ntmps19
  go_wp2
  go_ret
  exact ⟨rfl, rfl⟩

def fitsB (k c off cnt : Int) (P d : ByteArray) : Bool := (k == 1) && decide (0 ≤ off) && decide (0 ≤ cnt) && decide (cnt ≤ c) && decide (off ≤ c - cnt) && ((P.size : Int) == c * 8) && ((d.size : Int) == cnt * 8)
theorem fits_bd {k c off cnt : Int} {P d : ByteArray} (h : fitsB k c off cnt P d = true) : k = 1 ∧ 0 ≤ off ∧ 0 ≤ cnt ∧ cnt ≤ c ∧ off ≤ c - cnt ∧ (P.size : Int) = c * 8 ∧ (d.size : Int) = cnt * 8 := by
  unfold fitsB at h; simp at h; omega
set_option maxRecDepth 100000 in
set_option maxHeartbeats 1000000 in
theorem fits_any (i t d k s c : Int) (D : ByteArray) (p f : Bool) (m : Int) (st lf er ea : Int) (P : ByteArray) (cp : Int) (off cnt : Int) (d' : ByteArray) (w : World) (h0 : 0 ≤ c) (h1 : c ≤ 128) (hP : P.size ≤ maxLen) (hd : d'.size ≤ maxLen) :
    Calls Try.prog 20 #[.agg #[.int .i64 i, .int .i64 t, .int .i64 d, .int .i64 k, .int .i64 s, .int .i64 c, .string D, .bool p, .bool f, .int .i64 m, .int .i64 st, .int .i64 lf, .int .i64 er, .int .i64 ea, .string P, .int .i64 cp], .int .i64 off, .int .i64 cnt, .string d'] w fun e w' => e = .returned (.bool (fitsB k c off cnt P d')) ∧ w.alloc (.cells #[.int .i64 i, .int .i64 t, .int .i64 d, .int .i64 k, .int .i64 s, .int .i64 c, .string D, .bool p, .bool f, .int .i64 m, .int .i64 st, .int .i64 lf, .int .i64 er, .int .i64 ea, .string P, .int .i64 cp] 26) = w' := by
  unfold maxLen at hP hd
  go_enter Try.func20, Try.ntmps20
  go_wp2
  all_goals
    go_ret
    exact ⟨by unfold fitsB; simp [*]; try omega, by first | rfl | (simp [*]; done)⟩
end Go.Proofs.Ytppkbifhhpakgaa
