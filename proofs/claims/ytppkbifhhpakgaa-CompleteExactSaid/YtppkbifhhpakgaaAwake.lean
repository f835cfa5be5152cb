/- awake of layer 35 returns true. -/
import Derived.Test.YtppkbifhhpakgaaPv
namespace Go.Proofs.Ytppkbifhhpakgaa
open Go.ChangeShapes Go.WideShapes Go.ChangeAt Go.RowKit

set_option maxRecDepth 100000 in
set_option maxHeartbeats 4000000 in
theorem awake_any (w : World) : Calls Try.prog 13 #[] w (RetW (.bool true) w) := by
  have q1 : partS 1 4 2 0 0 (begP 1 4) 3 1 10 ⟨#[]⟩ = (1, 10, 3, begP 1 4) := by simp [partS, fitB, wrap64]
  have q2 : partS 1 4 1 10 3 (begP 1 4) 1 1 50 ⟨#[]⟩ = (0, 50, 1, begP 1 4) := by simp [partS, fitB, wrap64]
  have q3 : ansS 1 50 (begP 1 4) = ⟨#[]⟩ := by rfl
  have sz : (begP 1 4).size ≤ maxLen := by decide +kernel
  have Q1 := Lib.hid q1; have Q2 := Lib.hid q2; have Q3 := Lib.hid q3; have SZ := Lib.hid sz
  clear q1 q2 q3 sz
  go_enter Try.func13, Try.ntmps13
  go_wp2_with fail
  refine (begin_pv 7 1 4 _ (by omega) (by omega)).mono ?_
  rintro e1 w1 ⟨rfl, hb1⟩
  generalize begP 1 4 = D at Q1 Q2 Q3 SZ ⊢
  go_wp2_with (with_reducible refine hold_store 26 rfl ?_)
  refine store_pv (At.new w1 ZV 26) rfl rfl rfl rfl rfl ?_
  intro w2 hw2 hA2
  have hB2 : Below w.heap.size w w2 := by
    rw [hw2]; exact below_cells (by have := hb1.size; omega) _ _ (hb1.alloc hb1.size _)
  have hs := hb1.size
  clear hw2 hb1
  generalize w1.heap.size = b at hA2 hs ⊢
  have k2 := hA2.cell 11 _ rfl
  have f2 := hA2.free 11 (by simp [PV_len])
  have hB3 := Lib.hid (hB2.setCell (p := ⟨b, 11, none⟩) hs (.int .i64 2))
  have hA3 : At (w2.setCell ⟨b, 11, none⟩ (.int .i64 2)) b (PV 7 1 4 2 0 0 D) := hA2.set 11 _
  clear hA2 hB2
  go_wp2_with (with_reducible refine hold_load 26 rfl ?_)
  clear k2 f2
  generalize w2.setCell ⟨b, 11, none⟩ (.int .i64 2) = w3 at hA3 hB3 ⊢
  refine load_pv hA3 rfl rfl rfl ?_
  go_wp2_with fail
  refine (part_pv _ _ _ _ _ _ _ _ _ _ _ _ SZ.out (by decide +kernel)).mono ?_
  rw [Q1.out]
  rintro e4 w4 ⟨rfl, hb4⟩
  have hA4 := hA3.below hb4 hA3.hi
  go_wp2_with (with_reducible refine hold_store 26 rfl ?_)
  refine store_pv hA4 rfl rfl rfl rfl rfl ?_
  intro w5 hw5 hA5
  have hB5 : Below w.heap.size w w5 := by
    rw [hw5]; exact below_cells hs _ _ (hB3.out.trans (hb4.mono hB3.out.size))
  have HB5 := Lib.hid hB5
  clear hw5 hb4 hB5 hA4 hA3
  go_wp2_with (with_reducible refine hold_load 26 rfl ?_)
  refine load_pv hA5 rfl rfl rfl ?_
  go_wp2_with fail
  refine (part_pv _ _ _ _ _ _ _ _ _ _ _ _ SZ.out (by decide +kernel)).mono ?_
  rw [Q2.out]
  rintro e6 w6 ⟨rfl, hb6⟩
  have hA6 := hA5.below hb6 hA5.hi
  go_wp2_with (with_reducible refine hold_store 26 rfl ?_)
  refine store_pv hA6 rfl rfl rfl rfl rfl ?_
  intro w7 hw7 hA7
  have hB7 : Below w.heap.size w w7 := by
    rw [hw7]; exact below_cells hs _ _ (HB5.out.trans (hb6.mono HB5.out.size))
  have HB7 := Lib.hid hB7
  clear hw7 hb6 hB7 hA6 hA5
  go_wp2_with (with_reducible refine hold_load 26 rfl ?_)
  refine load_pv hA7 rfl rfl rfl ?_
  go_wp2_with fail
  refine (answer_pv _ _ _ _ _ _ _ _ _).mono ?_
  rw [Q3.out]
  rintro e8 w8 ⟨rfl, hb8⟩
  have hA8 := hA7.below hb8 hA7.hi
  have k8 := hA8.cell 11 _ rfl
  have hlt := hA8.hi
  go_wp2_with fail
  go_ret
  refine RetW.mk rfl ?_
  exact (HB7.out.trans (hb8.mono HB7.out.size)).alloc (Nat.le_trans HB7.out.size hb8.size) _
end Go.Proofs.Ytppkbifhhpakgaa
