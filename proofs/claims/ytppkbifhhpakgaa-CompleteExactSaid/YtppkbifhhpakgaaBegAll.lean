/- Begin and BeginParent, by one answer, of any request. -/
import Derived.Test.YtppkbifhhpakgaaPv
namespace Go.Proofs.Ytppkbifhhpakgaa
open Go.ChangeShapes Go.WideShapes Go.ChangeAt Go.RowKit

/-- the parent that begins a request -/
def BV (i t d k s c : Int) (D : ByteArray) (p f : Bool) (m : Int) : List Value :=
  if fitB c = true then [.int .i64 i, .int .i64 t, .int .i64 d, .int .i64 k, .int .i64 s, .int .i64 c, .string D, .bool p, .bool f, .int .i64 m, .int .i64 0, .int .i64 0, .int .i64 0, .int .i64 0, .string (begP k c), .int .i64 0] else ZV
theorem begin_any (i t d k s c : Int) (D : ByteArray) (p f : Bool) (m : Int) (w : World) :
    Calls Try.prog 7 #[.agg #[.int .i64 i, .int .i64 t, .int .i64 d, .int .i64 k, .int .i64 s, .int .i64 c, .string D, .bool p, .bool f, .int .i64 m]] w (RetW (.agg (BV i t d k s c D p f m).toArray) w) := by
  unfold BV
  cases hc : fitB c with
  | false => rw [if_neg (by simp)]; exact begin_A i t d k s c D p f m w hc
  | true =>
    rw [if_pos rfl]
    have hb := fit_bd hc
    by_cases hk : k = 1
    · unfold begP; rw [if_pos hk]; exact begin_C i t d k s c D p f m w hc (by simpa using hk) hb.1 hb.2
    · unfold begP; rw [if_neg hk]; exact begin_B i t d k s c D p f m w hc (by simpa using hk)
theorem rbegin_any (i t d k s c : Int) (D : ByteArray) (p f : Bool) (m : Int) (w : World) :
    Calls Try.prog 8 #[.agg #[.int .i64 i, .int .i64 t, .int .i64 d, .int .i64 k, .int .i64 s, .int .i64 c, .string D, .bool p, .bool f, .int .i64 m]] w (RetW (.agg (BV i t d k s c D p f m).toArray) w) := by
  unfold BV
  cases hc : fitB c with
  | false => rw [if_neg (by simp)]; exact beginr_A i t d k s c D p f m w hc
  | true =>
    rw [if_pos rfl]
    have hb := fit_bd hc
    by_cases hk : k = 1
    · unfold begP; rw [if_pos hk]; exact beginr_C i t d k s c D p f m w hc (by simpa using hk) hb.1 hb.2
    · unfold begP; rw [if_neg hk]; exact beginr_B i t d k s c D p f m w hc (by simpa using hk)
end Go.Proofs.Ytppkbifhhpakgaa
