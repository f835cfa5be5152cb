/- The reference's Part, where a part does not fit. -/
import Derived.Test.YtppkbifhhpakgaaPartDefs
import Derived.Test.YtppkbifhhpakgaaMid
namespace Go.Proofs.Ytppkbifhhpakgaa
open Go.ChangeShapes Go.WideShapes Go.ChangeAt Go.RowKit
set_option maxRecDepth 100000 in
set_option maxHeartbeats 2000000 in
theorem partr_N2 (i t d k s c : Int) (D : ByteArray) (p f : Bool) (m : Int) (st lf er ea : Int) (P : ByteArray) (cp : Int) (off cnt x : Int) (d' : ByteArray) (w : World) (hc : fitB c = true) (hx : x = 0) (hP : P.size ≤ maxLen) (hd : d'.size ≤ maxLen) (h0 : (k == 1) = true) (h1 : 0 ≤ off) (hn : cnt < 0) :
    Calls Try.prog 10 #[.agg #[.int .i64 i, .int .i64 t, .int .i64 d, .int .i64 k, .int .i64 s, .int .i64 c, .string D, .bool p, .bool f, .int .i64 m, .int .i64 st, .int .i64 lf, .int .i64 er, .int .i64 ea, .string P, .int .i64 cp], .int .i64 off, .int .i64 cnt, .int .i64 x, .string d'] w (RetW (.agg #[.int .i64 i, .int .i64 t, .int .i64 d, .int .i64 k, .int .i64 s, .int .i64 c, .string D, .bool p, .bool f, .int .i64 m, .int .i64 st, .int .i64 (wrap64 (lf - 1)), .int .i64 er, .int .i64 ea, .string P, .int .i64 cp]) w) := by
  subst hx
  have hcb := fit_bd hc
  have bc0 : 0 ≤ c := hcb.1
  have bc1 : c ≤ 128 := hcb.2
  clear hcb
  unfold maxLen at hP hd
  go_enter Try.func10, Try.ntmps10
  go_wp2_with fail
  refine (fit_any _ _ _ _ _ _ _ _ _ _ _).mono ?_
  rintro e1 w1 ⟨rfl, rfl⟩
  go_wp2_with (with_reducible refine hold_load 26 rfl ?_)
  refine load_at (tail1 _ _ _ _ _ _).1 Try.underlying26 rfl size26 rfl rfl rfl ?_
  refine store_at [.int .i64 i, .int .i64 t, .int .i64 d, .int .i64 k, .int .i64 s, .int .i64 c, .string D, .bool p, .bool f, .int .i64 m, .int .i64 st, .int .i64 (wrap64 (lf - 1)), .int .i64 er, .int .i64 ea, .string P, .int .i64 cp] (tail1 _ _ _ _ _ _).2.1 rfl size26 (by simp [Value.oneCell']) rfl rfl rfl rfl ?_
  intro w5 hw5 hA5
  have hB5 : Below w.heap.size w w5 := by rw [hw5]; exact below_cells (Nat.le_succ _) _ _ (tail1 _ _ _ _ _ _).2.2
  clear hw5
  go_wp2_with fail
  refine bodyPost_ret ?_ ?_ (RetW.mk rfl hB5)
  rotate_left 1
  · rfl
  exact results_cell Try.prog _ _ rfl _ _ _ rfl _ hA5.r Try.underlying26 rfl size26
set_option maxRecDepth 100000 in
set_option maxHeartbeats 2000000 in
theorem partr_N3 (i t d k s c : Int) (D : ByteArray) (p f : Bool) (m : Int) (st lf er ea : Int) (P : ByteArray) (cp : Int) (off cnt x : Int) (d' : ByteArray) (w : World) (hc : fitB c = true) (hx : x = 0) (hP : P.size ≤ maxLen) (hd : d'.size ≤ maxLen) (h0 : (k == 1) = true) (h1 : 0 ≤ off) (h2 : 0 ≤ cnt) (hn : c < off) :
    Calls Try.prog 10 #[.agg #[.int .i64 i, .int .i64 t, .int .i64 d, .int .i64 k, .int .i64 s, .int .i64 c, .string D, .bool p, .bool f, .int .i64 m, .int .i64 st, .int .i64 lf, .int .i64 er, .int .i64 ea, .string P, .int .i64 cp], .int .i64 off, .int .i64 cnt, .int .i64 x, .string d'] w (RetW (.agg #[.int .i64 i, .int .i64 t, .int .i64 d, .int .i64 k, .int .i64 s, .int .i64 c, .string D, .bool p, .bool f, .int .i64 m, .int .i64 st, .int .i64 (wrap64 (lf - 1)), .int .i64 er, .int .i64 ea, .string P, .int .i64 cp]) w) := by
  subst hx
  have hcb := fit_bd hc
  have bc0 : 0 ≤ c := hcb.1
  have bc1 : c ≤ 128 := hcb.2
  clear hcb
  unfold maxLen at hP hd
  go_enter Try.func10, Try.ntmps10
  go_wp2_with fail
  refine (fit_any _ _ _ _ _ _ _ _ _ _ _).mono ?_
  rintro e1 w1 ⟨rfl, rfl⟩
  go_wp2_with (with_reducible refine hold_load 26 rfl ?_)
  refine load_at (tail1 _ _ _ _ _ _).1 Try.underlying26 rfl size26 rfl rfl rfl ?_
  refine store_at [.int .i64 i, .int .i64 t, .int .i64 d, .int .i64 k, .int .i64 s, .int .i64 c, .string D, .bool p, .bool f, .int .i64 m, .int .i64 st, .int .i64 (wrap64 (lf - 1)), .int .i64 er, .int .i64 ea, .string P, .int .i64 cp] (tail1 _ _ _ _ _ _).2.1 rfl size26 (by simp [Value.oneCell']) rfl rfl rfl rfl ?_
  intro w5 hw5 hA5
  have hB5 : Below w.heap.size w w5 := by rw [hw5]; exact below_cells (Nat.le_succ _) _ _ (tail1 _ _ _ _ _ _).2.2
  clear hw5
  go_wp2_with fail
  refine bodyPost_ret ?_ ?_ (RetW.mk rfl hB5)
  rotate_left 1
  · rfl
  exact results_cell Try.prog _ _ rfl _ _ _ rfl _ hA5.r Try.underlying26 rfl size26
end Go.Proofs.Ytppkbifhhpakgaa
