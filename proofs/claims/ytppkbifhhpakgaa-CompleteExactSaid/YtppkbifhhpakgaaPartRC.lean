/- The reference's Part, where a part fits. -/
import Derived.Test.YtppkbifhhpakgaaPartDefs
import Derived.Test.YtppkbifhhpakgaaMid
namespace Go.Proofs.Ytppkbifhhpakgaa
open Go.ChangeShapes Go.WideShapes Go.ChangeAt Go.RowKit
set_option maxRecDepth 100000 in
set_option maxHeartbeats 2000000 in
theorem partr_C1 (i t d k s c : Int) (D : ByteArray) (p f : Bool) (m : Int) (st lf er ea : Int) (P : ByteArray) (cp : Int) (off cnt x : Int) (d' : ByteArray) (w : World) (hc : fitB c = true) (hx : x = 0) (hf : fitsB k c off cnt P d' = true) (hP : P.size ≤ maxLen) (hd : d'.size ≤ maxLen) :
    Calls Try.prog 10 #[.agg #[.int .i64 i, .int .i64 t, .int .i64 d, .int .i64 k, .int .i64 s, .int .i64 c, .string D, .bool p, .bool f, .int .i64 m, .int .i64 st, .int .i64 lf, .int .i64 er, .int .i64 ea, .string P, .int .i64 cp], .int .i64 off, .int .i64 cnt, .int .i64 x, .string d'] w (RetW (.agg #[.int .i64 i, .int .i64 t, .int .i64 d, .int .i64 k, .int .i64 s, .int .i64 c, .string D, .bool p, .bool f, .int .i64 m, .int .i64 st, .int .i64 (wrap64 (lf - 1)), .int .i64 er, .int .i64 ea, .string (putS P off cnt d'), .int .i64 cp]) w) := by
  subst hx
  have hcb := fit_bd hc
  have bc0 : 0 ≤ c := hcb.1
  have bc1 : c ≤ 128 := hcb.2
  clear hcb
  have hb := fits_bd hf
  have b1 : 0 ≤ off := hb.2.1
  have b2 : 0 ≤ cnt := hb.2.2.1
  have b3 : off + cnt ≤ c := by omega
  have b4 : off * 8 ≤ (P.size : Int) := by omega
  have b5 : (off + cnt) * 8 ≤ (P.size : Int) := by omega
  have b6 : (d'.size : Int) ≤ 1024 := by omega
  have b7 : (P.size : Int) ≤ 1024 := by omega
  have t1 : (k == 1) = true := by simp; exact hb.1
  have t2 : off ≤ c := by omega
  have t3 : cnt ≤ c - off := by omega
  have t4 : ((P.size : Int) == c * 8) = true := by simp; omega
  have t5 : ((d'.size : Int) == cnt * 8) = true := by simp; omega
  have t6 : (off * 8 + (d'.size : Int)) = (off + cnt) * 8 := by omega
  have T6 := Lib.hid t6
  clear hb t6 hf
  go_enter Try.func10, Try.ntmps10
  go_wp2_with fail
  refine (fit_any _ _ _ _ _ _ _ _ _ _ _).mono ?_
  rintro e1 w1 ⟨rfl, rfl⟩
  go_wp2_with fail
  have q1 : IntKind.i64.wrap (off * 8) = off * 8 := IntWalk.i64_in _ (by omega)
  have q3 : IntKind.i64.wrap (off * 8 + (d'.size : Int)) = (off + cnt) * 8 := by rw [T6.out]; exact IntWalk.i64_in _ (by omega)
  have q4 : 0 ≤ off * 8 := by omega
  have q5 : 0 ≤ (off + cnt) * 8 := by omega
  have s1 : ¬ (9223372036854775807 < (off * 8).toNat + d'.size) := by omega
  have s2 : ¬ (9223372036854775807 < (off * 8).toNat + d'.size + (P.size - ((off + cnt) * 8).toNat)) := by omega
  refine gen_w1 (p := fun W' => Code.wp _ _ _ _ W') (a := ⟨w.heap.size, 14, none⟩) (v := .string P) ?_ (fun W' HW m14 => ?_)
  · go_simp
  go_still_tail 15, (by kernel_rfl)
  change wpList _ _ _ _ _ (World.drew _)
  rw [← HW.out]
  clear HW m14
  clear W'
  go_wp2_with (with_reducible refine hold_load 26 rfl ?_)
  refine load_at (drew3 (tail1 _ _ _ _ _ _)).1 Try.underlying26 rfl size26 rfl rfl rfl ?_
  refine store_at [.int .i64 i, .int .i64 t, .int .i64 d, .int .i64 k, .int .i64 s, .int .i64 c, .string D, .bool p, .bool f, .int .i64 m, .int .i64 st, .int .i64 (wrap64 (lf - 1)), .int .i64 er, .int .i64 ea, .string (putS P off cnt d'), .int .i64 cp] (drew3 (tail1 _ _ _ _ _ _)).2.1 rfl size26 (by simp [Value.oneCell']) rfl rfl rfl rfl ?_
  intro w5 hw5 hA5
  have hB5 : Below w.heap.size w w5 := by rw [hw5]; exact below_cells (Nat.le_succ _) _ _ (drew3 (tail1 _ _ _ _ _ _)).2.2
  clear hw5
  go_wp2_with fail
  refine bodyPost_ret ?_ ?_ (RetW.mk rfl hB5)
  rotate_left 1
  · rfl
  exact results_cell Try.prog _ _ rfl _ _ _ rfl _ hA5.r Try.underlying26 rfl size26
end Go.Proofs.Ytppkbifhhpakgaa
