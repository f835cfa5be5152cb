/- Begin, where a read begins; Begin and BeginParent by one answer. -/
import Derived.Test.YtppkbifhhpakgaaBeg
import Derived.Deep.MidRow
import Derived.Deep.Cut
namespace Go.Proofs.Ytppkbifhhpakgaa
open Go.ChangeShapes Go.WideShapes Go.ChangeAt Go.RowKit


set_option maxRecDepth 100000 in
set_option maxHeartbeats 4000000 in
theorem begin_C (i t d k s c : Int) (D : ByteArray) (p f : Bool) (m : Int) (w : World) (hc : fitB c = true) (hk : (k == 1) = true) (h0 : 0 ≤ c) (h1 : c ≤ 128) :
    Calls Try.prog 7 #[.agg #[.int .i64 i, .int .i64 t, .int .i64 d, .int .i64 k, .int .i64 s, .int .i64 c, .string D, .bool p, .bool f, .int .i64 m]] w (RetW (.agg #[.int .i64 i, .int .i64 t, .int .i64 d, .int .i64 k, .int .i64 s, .int .i64 c, .string D, .bool p, .bool f, .int .i64 m, .int .i64 0, .int .i64 0, .int .i64 0, .int .i64 0, .string (zeros (c * 8).toNat), .int .i64 0]) w) := by
  have q1 : IntKind.i64.wrap (c * 8) = c * 8 := IntWalk.i64_in _ (by omega)
  go_enter Try.func7, Try.ntmps7
  go_wp2_with fail
  refine (spec_any _ _ _ _ _ _ _ _ _ _ _).mono ?_
  rintro e1 w1 ⟨rfl, rfl⟩
  go_wp2_with fail
  refine (repeat_any _ _ (by omega) (by omega)).mono ?_
  rintro e2 w2 ⟨rfl, hb2⟩
  have h4 := four w #[.int .i64 i, .int .i64 t, .int .i64 d, .int .i64 k, .int .i64 s, .int .i64 c, .string D, .bool p, .bool f, .int .i64 m] #[.int .i64 0, .int .i64 0, .int .i64 0, .int .i64 0, .int .i64 0, .int .i64 0, .string ⟨#[]⟩, .bool false, .bool false, .int .i64 0, .int .i64 0, .int .i64 0, .int .i64 0, .int .i64 0, .string ⟨#[]⟩, .int .i64 0] #[.int .i64 i, .int .i64 t, .int .i64 d, .int .i64 k, .int .i64 s, .int .i64 c, .string D, .bool p, .bool f, .int .i64 m] #[.int .i64 i, .int .i64 t, .int .i64 d, .int .i64 k, .int .i64 s, .int .i64 c, .string D, .bool p, .bool f, .int .i64 m, .int .i64 0, .int .i64 0, .int .i64 0, .int .i64 0, .string ⟨#[]⟩, .int .i64 0] 23 26 23 26 _ rfl
  generalize (((w.alloc (.cells #[.int .i64 i, .int .i64 t, .int .i64 d, .int .i64 k, .int .i64 s, .int .i64 c, .string D, .bool p, .bool f, .int .i64 m] 23)).alloc (.cells #[.int .i64 0, .int .i64 0, .int .i64 0, .int .i64 0, .int .i64 0, .int .i64 0, .string ⟨#[]⟩, .bool false, .bool false, .int .i64 0, .int .i64 0, .int .i64 0, .int .i64 0, .int .i64 0, .string ⟨#[]⟩, .int .i64 0] 26)).alloc (.cells #[.int .i64 i, .int .i64 t, .int .i64 d, .int .i64 k, .int .i64 s, .int .i64 c, .string D, .bool p, .bool f, .int .i64 m] 23)).alloc (.cells #[.int .i64 i, .int .i64 t, .int .i64 d, .int .i64 k, .int .i64 s, .int .i64 c, .string D, .bool p, .bool f, .int .i64 m, .int .i64 0, .int .i64 0, .int .i64 0, .int .i64 0, .string ⟨#[]⟩, .int .i64 0] 26) = W at hb2 h4
  obtain ⟨hB0, hsz, c1, f1, c3, f3⟩ := h4
  have u1 : w.heap.size + 1 < W.heap.size := by omega
  have u3 : w.heap.size + 1 + 1 + 1 < W.heap.size := by omega
  have cc3 : ∀ j, w2.cell? ⟨w.heap.size + 1 + 1 + 1, j, none⟩ = [.int .i64 i, .int .i64 t, .int .i64 d, .int .i64 k, .int .i64 s, .int .i64 c, .string D, .bool p, .bool f, .int .i64 m, .int .i64 0, .int .i64 0, .int .i64 0, .int .i64 0, .string ⟨#[]⟩, .int .i64 0][j]? := fun j => (hb2.cell (p := ⟨w.heap.size + 1 + 1 + 1, j, none⟩) u3).trans ((c3 j).trans List.getElem?_toArray)
  have cc1 : ∀ j, w2.cell? ⟨w.heap.size + 1, j, none⟩ = [.int .i64 0, .int .i64 0, .int .i64 0, .int .i64 0, .int .i64 0, .int .i64 0, .string ⟨#[]⟩, .bool false, .bool false, .int .i64 0, .int .i64 0, .int .i64 0, .int .i64 0, .int .i64 0, .string ⟨#[]⟩, .int .i64 0][j]? := fun j => (hb2.cell (p := ⟨w.heap.size + 1, j, none⟩) u1).trans ((c1 j).trans List.getElem?_toArray)
  have ff1 : ∀ j, w2.frozen? ⟨w.heap.size + 1, j, none⟩ = false := fun j => (hb2.frozen (p := ⟨w.heap.size + 1, j, none⟩) u1).trans (f1 j)
  have p14 : w2.cell? ⟨w.heap.size + 1 + 1 + 1, 14, none⟩ = some (.string ⟨#[]⟩) := cc3 14
  have qq : w2.frozen? ⟨w.heap.size + 1 + 1 + 1, 14, none⟩ = false := (hb2.frozen (p := ⟨w.heap.size + 1 + 1 + 1, 14, none⟩) u3).trans (f3 14)
  have hR := range_set (range_of cc3) 14 (.string (zeros (c * 8).toNat))
  have hT := there_set (there_of (n := 16) cc1 ff1 rfl) ⟨w.heap.size + 1 + 1 + 1, 14, none⟩ (.string (zeros (c * 8).toNat))
  have HR := Lib.hid hR
  have HT := Lib.hid hT
  clear hR hT
  have hB : Below w.heap.size w w2 := hB0.trans (hb2.mono (by omega))
  clear hb2 hB0 hsz c1 f1 c3 f3 u1 u3 cc3 cc1 ff1
  go_upto_region 6 with (fail)
  apply wp_region_lit
  refine wpList_load_mid rfl 26 _ rfl (w.heap.size + 1 + 1 + 1) 0 rfl [.int .i64 i, .int .i64 t, .int .i64 d, .int .i64 k, .int .i64 s, .int .i64 c, .string D, .bool p, .bool f, .int .i64 m, .int .i64 0, .int .i64 0, .int .i64 0, .int .i64 0, .string (zeros (c * 8).toNat), .int .i64 0] _ HR.out Try.underlying26 rfl size26 ?_
  refine wpList_store_mid rfl 26 _ _ rfl (w.heap.size + 1) 0 #[.int .i64 i, .int .i64 t, .int .i64 d, .int .i64 k, .int .i64 s, .int .i64 c, .string D, .bool p, .bool f, .int .i64 m, .int .i64 0, .int .i64 0, .int .i64 0, .int .i64 0, .string (zeros (c * 8).toNat), .int .i64 0] rfl rfl HT.out size26 (by simp [Value.oneCell']) ?_
  have HQ := Lib.hid (World.rangeAt_setCells_same _ _ _ [.int .i64 i, .int .i64 t, .int .i64 d, .int .i64 k, .int .i64 s, .int .i64 c, .string D, .bool p, .bool f, .int .i64 m, .int .i64 0, .int .i64 0, .int .i64 0, .int .i64 0, .string (zeros (c * 8).toNat), .int .i64 0] HT.out)
  have HB := Lib.hid (below_cells (b := w.heap.size + 1) (by omega) [.int .i64 i, .int .i64 t, .int .i64 d, .int .i64 k, .int .i64 s, .int .i64 c, .string D, .bool p, .bool f, .int .i64 m, .int .i64 0, .int .i64 0, .int .i64 0, .int .i64 0, .string (zeros (c * 8).toNat), .int .i64 0] 0 (hB.setCell (p := ⟨w.heap.size + 1 + 1 + 1, 14, none⟩) (by simp; omega) (.string (zeros (c * 8).toNat))))
  clear HR HT
  generalize World.setCells _ _ _ _ = w5 at HQ HB ⊢
  go_wp2_with fail
  refine bodyPost_ret (v := .agg #[.int .i64 i, .int .i64 t, .int .i64 d, .int .i64 k, .int .i64 s, .int .i64 c, .string D, .bool p, .bool f, .int .i64 m, .int .i64 0, .int .i64 0, .int .i64 0, .int .i64 0, .string (zeros (c * 8).toNat), .int .i64 0]) ?_ ?_ (RetW.mk rfl HB.out)
  rotate_left 1
  · rfl
  exact results_cell Try.prog _ _ rfl _ _ _ rfl _ HQ.out Try.underlying26 rfl size26
end Go.Proofs.Ytppkbifhhpakgaa
