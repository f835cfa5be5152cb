/- Begin and the reference's BeginParent. -/
import Derived.Test.YtppkbifhhpakgaaPartDefs
import Derived.Test.YtppkbifhhpakgaaMid
namespace Go.Proofs.Ytppkbifhhpakgaa
open Go.ChangeShapes Go.WideShapes Go.ChangeAt Go.RowKit

set_option maxRecDepth 100000 in
set_option maxHeartbeats 2000000 in
theorem begin_A (i t d k s c : Int) (D : ByteArray) (p f : Bool) (m : Int) (w : World) (hc : fitB c = false) :
    Calls Try.prog 7 #[.agg #[.int .i64 i, .int .i64 t, .int .i64 d, .int .i64 k, .int .i64 s, .int .i64 c, .string D, .bool p, .bool f, .int .i64 m]] w (RetW (.agg #[.int .i64 0, .int .i64 0, .int .i64 0, .int .i64 0, .int .i64 0, .int .i64 0, .string ⟨#[]⟩, .bool false, .bool false, .int .i64 0, .int .i64 0, .int .i64 0, .int .i64 0, .int .i64 0, .string ⟨#[]⟩, .int .i64 0]) w) := by
  go_enter Try.func7, Try.ntmps7
  go_wp2_with fail
  refine (spec_any _ _ _ _ _ _ _ _ _ _ _).mono ?_
  rintro e1 w1 ⟨rfl, rfl⟩
  go_wp2_with (with_reducible refine hold_store 26 rfl ?_)
  refine store_at [.int .i64 0, .int .i64 0, .int .i64 0, .int .i64 0, .int .i64 0, .int .i64 0, .string ⟨#[]⟩, .bool false, .bool false, .int .i64 0, .int .i64 0, .int .i64 0, .int .i64 0, .int .i64 0, .string ⟨#[]⟩, .int .i64 0] (tail1 _ _ _ _ _ _).2.1 rfl size26 (by simp [Value.oneCell']) rfl rfl rfl rfl ?_
  intro w5 hw5 hA5
  have hB5 : Below w.heap.size w w5 := by rw [hw5]; exact below_cells (Nat.le_succ _) _ _ (tail1 _ _ _ _ _ _).2.2
  clear hw5
  go_wp2_with fail
  refine bodyPost_ret ?_ ?_ (RetW.mk rfl hB5)
  rotate_left 1
  · rfl
  exact results_cell Try.prog _ _ rfl _ _ _ rfl _ hA5.r Try.underlying26 rfl size26

set_option maxRecDepth 100000 in
set_option maxHeartbeats 2000000 in
theorem begin_B (i t d k s c : Int) (D : ByteArray) (p f : Bool) (m : Int) (w : World) (hc : fitB c = true) (hk : (k == 1) = false) :
    Calls Try.prog 7 #[.agg #[.int .i64 i, .int .i64 t, .int .i64 d, .int .i64 k, .int .i64 s, .int .i64 c, .string D, .bool p, .bool f, .int .i64 m]] w (RetW (.agg #[.int .i64 i, .int .i64 t, .int .i64 d, .int .i64 k, .int .i64 s, .int .i64 c, .string D, .bool p, .bool f, .int .i64 m, .int .i64 0, .int .i64 0, .int .i64 0, .int .i64 0, .string ⟨#[]⟩, .int .i64 0]) w) := by
  go_enter Try.func7, Try.ntmps7
  go_wp2_with fail
  refine (spec_any _ _ _ _ _ _ _ _ _ _ _).mono ?_
  rintro e1 w1 ⟨rfl, rfl⟩
  go_wp2_with (with_reducible refine hold_load 26 rfl ?_)
  refine load_at (tail4 _ _ _ _ _ _ _ _ _).1 Try.underlying26 rfl size26 rfl rfl rfl ?_
  refine store_at [.int .i64 i, .int .i64 t, .int .i64 d, .int .i64 k, .int .i64 s, .int .i64 c, .string D, .bool p, .bool f, .int .i64 m, .int .i64 0, .int .i64 0, .int .i64 0, .int .i64 0, .string ⟨#[]⟩, .int .i64 0] (tail4 _ _ _ _ _ _ _ _ _).2.1 rfl size26 (by simp [Value.oneCell']) rfl rfl rfl rfl ?_
  intro w5 hw5 hA5
  have hB5 : Below w.heap.size w w5 := by rw [hw5]; exact below_cells (Nat.le_succ _) _ _ (tail4 _ _ _ _ _ _ _ _ _).2.2
  clear hw5
  go_wp2_with fail
  refine bodyPost_ret ?_ ?_ (RetW.mk rfl hB5)
  rotate_left 1
  · rfl
  exact results_cell Try.prog _ _ rfl _ _ _ rfl _ hA5.r Try.underlying26 rfl size26

set_option maxRecDepth 100000 in
set_option maxHeartbeats 2000000 in
theorem beginr_A (i t d k s c : Int) (D : ByteArray) (p f : Bool) (m : Int) (w : World) (hc : fitB c = false) :
    Calls Try.prog 8 #[.agg #[.int .i64 i, .int .i64 t, .int .i64 d, .int .i64 k, .int .i64 s, .int .i64 c, .string D, .bool p, .bool f, .int .i64 m]] w (RetW (.agg #[.int .i64 0, .int .i64 0, .int .i64 0, .int .i64 0, .int .i64 0, .int .i64 0, .string ⟨#[]⟩, .bool false, .bool false, .int .i64 0, .int .i64 0, .int .i64 0, .int .i64 0, .int .i64 0, .string ⟨#[]⟩, .int .i64 0]) w) := by
  go_enter Try.func8, Try.ntmps8
  go_wp2_with fail
  refine (fit_any _ _ _ _ _ _ _ _ _ _ _).mono ?_
  rintro e1 w1 ⟨rfl, rfl⟩
  go_wp2_with (with_reducible refine hold_store 26 rfl ?_)
  refine store_at [.int .i64 0, .int .i64 0, .int .i64 0, .int .i64 0, .int .i64 0, .int .i64 0, .string ⟨#[]⟩, .bool false, .bool false, .int .i64 0, .int .i64 0, .int .i64 0, .int .i64 0, .int .i64 0, .string ⟨#[]⟩, .int .i64 0] (tail1 _ _ _ _ _ _).2.1 rfl size26 (by simp [Value.oneCell']) rfl rfl rfl rfl ?_
  intro w5 hw5 hA5
  have hB5 : Below w.heap.size w w5 := by rw [hw5]; exact below_cells (Nat.le_succ _) _ _ (tail1 _ _ _ _ _ _).2.2
  clear hw5
  go_wp2_with fail
  refine bodyPost_ret ?_ ?_ (RetW.mk rfl hB5)
  rotate_left 1
  · rfl
  exact results_cell Try.prog _ _ rfl _ _ _ rfl _ hA5.r Try.underlying26 rfl size26

set_option maxRecDepth 100000 in
set_option maxHeartbeats 2000000 in
theorem beginr_B (i t d k s c : Int) (D : ByteArray) (p f : Bool) (m : Int) (w : World) (hc : fitB c = true) (hk : (k == 1) = false) :
    Calls Try.prog 8 #[.agg #[.int .i64 i, .int .i64 t, .int .i64 d, .int .i64 k, .int .i64 s, .int .i64 c, .string D, .bool p, .bool f, .int .i64 m]] w (RetW (.agg #[.int .i64 i, .int .i64 t, .int .i64 d, .int .i64 k, .int .i64 s, .int .i64 c, .string D, .bool p, .bool f, .int .i64 m, .int .i64 0, .int .i64 0, .int .i64 0, .int .i64 0, .string ⟨#[]⟩, .int .i64 0]) w) := by
  go_enter Try.func8, Try.ntmps8
  go_wp2_with fail
  refine (fit_any _ _ _ _ _ _ _ _ _ _ _).mono ?_
  rintro e1 w1 ⟨rfl, rfl⟩
  go_wp2_with (with_reducible refine hold_load 26 rfl ?_)
  refine load_at (tail4 _ _ _ _ _ _ _ _ _).1 Try.underlying26 rfl size26 rfl rfl rfl ?_
  refine store_at [.int .i64 i, .int .i64 t, .int .i64 d, .int .i64 k, .int .i64 s, .int .i64 c, .string D, .bool p, .bool f, .int .i64 m, .int .i64 0, .int .i64 0, .int .i64 0, .int .i64 0, .string ⟨#[]⟩, .int .i64 0] (tail4 _ _ _ _ _ _ _ _ _).2.1 rfl size26 (by simp [Value.oneCell']) rfl rfl rfl rfl ?_
  intro w5 hw5 hA5
  have hB5 : Below w.heap.size w w5 := by rw [hw5]; exact below_cells (Nat.le_succ _) _ _ (tail4 _ _ _ _ _ _ _ _ _).2.2
  clear hw5
  go_wp2_with fail
  refine bodyPost_ret ?_ ?_ (RetW.mk rfl hB5)
  rotate_left 1
  · rfl
  exact results_cell Try.prog _ _ rfl _ _ _ rfl _ hA5.r Try.underlying26 rfl size26

set_option maxRecDepth 100000 in
set_option maxHeartbeats 2000000 in
theorem beginr_C (i t d k s c : Int) (D : ByteArray) (p f : Bool) (m : Int) (w : World) (hc : fitB c = true) (hk : (k == 1) = true) (h0 : 0 ≤ c) (h1 : c ≤ 128) :
    Calls Try.prog 8 #[.agg #[.int .i64 i, .int .i64 t, .int .i64 d, .int .i64 k, .int .i64 s, .int .i64 c, .string D, .bool p, .bool f, .int .i64 m]] w (RetW (.agg #[.int .i64 i, .int .i64 t, .int .i64 d, .int .i64 k, .int .i64 s, .int .i64 c, .string D, .bool p, .bool f, .int .i64 m, .int .i64 0, .int .i64 0, .int .i64 0, .int .i64 0, .string (zeros (c * 8).toNat), .int .i64 0]) w) := by
  go_enter Try.func8, Try.ntmps8
  go_wp2_with fail
  refine (fit_any _ _ _ _ _ _ _ _ _ _ _).mono ?_
  rintro e1 w1 ⟨rfl, rfl⟩
  go_wp2_with fail
  refine (zero_any _ _ h0 h1).mono ?_
  rintro e2 w2 ⟨rfl, rfl⟩
  go_wp2_with (with_reducible refine hold_load 26 rfl ?_)
  refine load_at (tail5 _ _ _ _ _ _ _ _ _ _).1 Try.underlying26 rfl size26 rfl rfl rfl ?_
  refine store_at [.int .i64 i, .int .i64 t, .int .i64 d, .int .i64 k, .int .i64 s, .int .i64 c, .string D, .bool p, .bool f, .int .i64 m, .int .i64 0, .int .i64 0, .int .i64 0, .int .i64 0, .string (zeros (c * 8).toNat), .int .i64 0] (tail5 _ _ _ _ _ _ _ _ _ _).2.1 rfl size26 (by simp [Value.oneCell']) rfl rfl rfl rfl ?_
  intro w5 hw5 hA5
  have hB5 : Below w.heap.size w w5 := by rw [hw5]; exact below_cells (Nat.le_succ _) _ _ (tail5 _ _ _ _ _ _ _ _ _ _).2.2
  clear hw5
  go_wp2_with fail
  refine bodyPost_ret ?_ ?_ (RetW.mk rfl hB5)
  rotate_left 1
  · rfl
  exact results_cell Try.prog _ _ rfl _ _ _ rfl _ hA5.r Try.underlying26 rfl size26
end Go.Proofs.Ytppkbifhhpakgaa
