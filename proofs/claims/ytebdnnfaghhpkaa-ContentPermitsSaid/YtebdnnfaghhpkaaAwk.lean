/- The sanity check. -/
import Derived.Test.YtebdnnfaghhpkaaHx
import Derived.Test.YtebdnnfaghhpkaaPnr
namespace Go.Proofs.Ytebdnnfaghhpkaa
open Go.ChangeShapes Go.WideShapes Go.ChangeAt Go.RowKit

theorem aw_write (w : World) : Calls Try.prog 14 #[.string ⟨#[97, 98]⟩, .int .i64 3, .string ⟨#[120]⟩] w (RetW (.tuple #[.string ⟨#[97, 98, 0, 120]⟩, .int .i64 0]) w) := by
  have h := write_any ⟨#[97, 98]⟩ 3 ⟨#[120]⟩ w (by decide) (by decide)
  rw [show writeV ⟨#[97, 98]⟩ 3 ⟨#[120]⟩ = (⟨#[97, 98, 0, 120]⟩, 0) from by kernel_rfl] at h
  exact h
theorem aw_read (w : World) : Calls Try.prog 12 #[.string ⟨#[97, 98, 0, 120]⟩, .int .i64 1, .int .i64 9] w fun e w' => e = .returned (.tuple #[.string ⟨#[98, 0, 120]⟩, .int .i64 0]) ∧ w = w' := by
  have h := read_any ⟨#[97, 98, 0, 120]⟩ 1 9 w (by decide)
  rw [show readV ⟨#[97, 98, 0, 120]⟩ 1 9 = (⟨#[98, 0, 120]⟩, 0) from by kernel_rfl] at h
  exact h
theorem aw_trunc (w : World) : Calls Try.prog 16 #[.string ⟨#[97, 98, 0, 120]⟩, .int .i64 1] w (RetW (.tuple #[.string ⟨#[97]⟩, .int .i64 0]) w) := by
  have h := trunc_any ⟨#[97, 98, 0, 120]⟩ 1 w (by decide)
  rw [show truncV ⟨#[97, 98, 0, 120]⟩ 1 = (⟨#[97]⟩, 0) from by kernel_rfl] at h
  exact h
theorem aw_punch (w : World) : Calls Try.prog 18 #[.string ⟨#[97, 98, 99]⟩, .int .i64 1, .int .i64 1] w (RetW (.tuple #[.string ⟨#[97, 0, 99]⟩, .int .i64 0]) w) := by
  have h := punch_any ⟨#[97, 98, 99]⟩ 1 1 w (by decide)
  rw [show punchV ⟨#[97, 98, 99]⟩ 1 1 = (⟨#[97, 0, 99]⟩, 0) from by kernel_rfl] at h
  exact h
theorem aw_change (l : List ByteArray) (n : Nat) (hn : l.length = n) (h2 : n ≤ 10) (a : Option Addr) (cap : Nat) (s : ByteArray) (w : World) (h : StrRow 0 a cap l w) :
    Calls Try.prog 27 #[.agg #[.slice a n cap, .int .i64 0], .string s] w fun e w' => ∃ a' cap', e = .returned (.agg #[.slice a' (n + 1) cap', .int .i64 0]) ∧ StrRow 0 a' cap' (l ++ [s]) w' ∧ Below w.heap.size w w' := by
  subst hn
  refine (change_any 0 a l cap 0 s w h (by omega)).mono ?_
  rintro e w' ⟨a', cap', rfl, hr, hb⟩
  exact ⟨a', cap', rfl, hr.mono (Nat.zero_le _), hb⟩
theorem aw_synced (a : Option Addr) (cap : Nat) (w : World) (h : StrRow 0 a cap [⟨#[]⟩, ⟨#[97]⟩, ⟨#[97, 98]⟩] w) :
    Calls Try.prog 29 #[.agg #[.slice a 3 cap, .int .i64 0], .int .i64 1] w fun e w' => ∃ a' cap', e = .returned (.agg #[.slice a' 3 cap', .int .i64 1]) ∧ StrRow 0 a' cap' [⟨#[]⟩, ⟨#[97]⟩, ⟨#[97, 98]⟩] w' ∧ Below w.heap.size w w' := by
  refine (synced_any 0 a [⟨#[]⟩, ⟨#[97]⟩, ⟨#[97, 98]⟩] cap 0 1 w h (by decide)).mono ?_
  rintro e w' ⟨a', cap', rfl, hr, hb⟩
  exact ⟨a', cap', rfl, hr.mono (Nat.zero_le _), hb⟩
theorem aw_may (s : ByteArray) (r : Bool) (hr : mayV [⟨#[]⟩, ⟨#[97]⟩, ⟨#[97, 98]⟩] 1 s = r) (hs : s.size ≤ 10) (a : Option Addr) (cap : Nat) (w : World) (h : StrRow 0 a cap [⟨#[]⟩, ⟨#[97]⟩, ⟨#[97, 98]⟩] w) :
    Calls Try.prog 24 #[.agg #[.slice a 3 cap, .int .i64 1], .string s] w (RetW (.bool r) w) := by
  have hm := may_any 0 a [⟨#[]⟩, ⟨#[97]⟩, ⟨#[97, 98]⟩] cap 1 s w h (by decide) (by intro x hx; simp at hx; rcases hx with rfl | rfl | rfl <;> decide) (by omega)
  rw [hr] at hm
  exact hm
theorem may1 : mayV [⟨#[]⟩, ⟨#[97]⟩, ⟨#[97, 98]⟩] 1 ⟨#[97, 98]⟩ = true := by kernel_rfl
theorem may2 : mayV [⟨#[]⟩, ⟨#[97]⟩, ⟨#[97, 98]⟩] 1 ⟨#[97, 0]⟩ = true := by kernel_rfl
theorem may3 : mayV [⟨#[]⟩, ⟨#[97]⟩, ⟨#[97, 98]⟩] 1 ⟨#[]⟩ = false := by kernel_rfl
theorem aw_byte0 (w : World) : Calls Try.prog 20 #[.string ⟨#[97]⟩, .int .i64 0] w fun e w' => e = .returned (.int .u8 97) ∧ w = w' := byte_any ⟨#[97]⟩ 0 w (by decide)
theorem aw_byte1 (w : World) : Calls Try.prog 20 #[.string ⟨#[97]⟩, .int .i64 1] w fun e w' => e = .returned (.int .u8 0) ∧ w = w' := byte_any ⟨#[97]⟩ 1 w (by decide)

set_option maxHeartbeats 4000000 in
theorem awake_any (w : World) : Calls Try.prog 22 #[] w (RetW (.bool true) w) := by
  go_enter Try.func22, Try.ntmps22
  go_wp2_with fail
  refine (aw_write _).mono ?_; rintro e w1 ⟨rfl, hb1⟩
  go_wp2_with fail
  refine (aw_read _).mono ?_; rintro e w2 ⟨rfl, rfl⟩
  go_wp2_with fail
  refine (aw_trunc _).mono ?_; rintro e w3 ⟨rfl, hb3⟩
  go_wp2_with fail
  refine (aw_punch _).mono ?_; rintro e w4 ⟨rfl, hb4⟩
  go_wp2_with fail
  have B4 : Hid (Below w.heap.size w w4) := (hb1.trans (hb3.mono hb1.size)).trans (hb4.mono (hb1.trans (hb3.mono hb1.size)).size)
  clear hb1 hb3 hb4
  refine (aw_change [] 0 rfl (by decide) none 0 ⟨#[]⟩ _ (Or.inl ⟨rfl, rfl, rfl⟩)).mono ?_; rintro e w5 ⟨a1, c1, rfl, r1, hb5⟩
  have B5 : Hid (Below w.heap.size w w5) := B4.out.trans (hb5.mono B4.out.size)
  clear hb5
  have R1 := Lib.hid r1
  clear r1
  go_wp2_with fail
  refine (aw_change _ 1 rfl (by decide) a1 c1 ⟨#[97]⟩ _ R1.out).mono ?_; rintro e w6 ⟨a2, c2, rfl, r2, hb6⟩
  have B6 : Hid (Below w.heap.size w w6) := B5.out.trans (hb6.mono B5.out.size)
  clear hb6 R1
  have R2 := Lib.hid r2
  clear r2
  go_wp2_with fail
  refine (aw_change _ 2 rfl (by decide) a2 c2 ⟨#[97, 98]⟩ _ R2.out).mono ?_; rintro e w7 ⟨a3, c3, rfl, r3, hb7⟩
  have B7 : Hid (Below w.heap.size w w7) := B6.out.trans (hb7.mono B6.out.size)
  clear hb7 R2
  have R3 : Hid (StrRow 0 a3 c3 [⟨#[]⟩, ⟨#[97]⟩, ⟨#[97, 98]⟩] w7) := r3
  clear r3
  go_wp2_with fail
  have B7' : Hid (Below w.heap.size w (w7.alloc (Obj.cells #[Value.slice a3 3 c3, Value.int IntKind.i64 0] 40))) := B7.out.alloc B7.out.size _
  refine (aw_synced a3 c3 _ (R3.out.below ((Below.refl _ _).alloc (Nat.le_refl _) _))).mono ?_; rintro e w8 ⟨a4, c4, rfl, r4, hb8⟩
  have B8 : Hid (Below w.heap.size w w8) := B7'.out.trans (hb8.mono B7'.out.size)
  clear hb8 R3 B7'
  have R4 := Lib.hid r4
  clear r4
  have y0 : (w8.alloc (Obj.cells #[Value.slice a4 3 c4, Value.int IntKind.i64 1] 40)).cell? ⟨w8.heap.size, 0, none⟩ = some (.slice a4 3 c4) := by simp
  have y1 : (w8.alloc (Obj.cells #[Value.slice a4 3 c4, Value.int IntKind.i64 1] 40)).cell? ⟨w8.heap.size, 1, none⟩ = some (.int .i64 1) := by simp
  have yl : w8.heap.size < (w8.alloc (Obj.cells #[Value.slice a4 3 c4, Value.int IntKind.i64 1] 40)).heap.size := by simp
  have B9 : Hid (Below w.heap.size w (w8.alloc (Obj.cells #[Value.slice a4 3 c4, Value.int IntKind.i64 1] 40))) := B8.out.alloc B8.out.size _
  have R9 : Hid (StrRow 0 a4 c4 [⟨#[]⟩, ⟨#[97]⟩, ⟨#[97, 98]⟩] (w8.alloc (Obj.cells #[Value.slice a4 3 c4, Value.int IntKind.i64 1] 40))) := R4.out.below ((Below.refl _ _).alloc (Nat.le_refl _) _)
  go_wp2_with fail
  generalize w8.alloc (Obj.cells #[Value.slice a4 3 c4, Value.int IntKind.i64 1] 40) = w9 at *
  generalize w8.heap.size = BY at *
  refine (aw_may ⟨#[97, 98]⟩ true may1 (by decide) a4 c4 _ R9.out).mono ?_; rintro e w10 ⟨rfl, hb⟩
  have R10 : Hid (StrRow 0 a4 c4 [⟨#[]⟩, ⟨#[97]⟩, ⟨#[97, 98]⟩] w10) := R9.out.below hb
  have y0 := (hb.cell (p := ⟨BY, 0, none⟩) yl).trans y0
  have y1 := (hb.cell (p := ⟨BY, 1, none⟩) yl).trans y1
  have yl := Nat.lt_of_lt_of_le yl hb.size
  have B10 : Hid (Below w.heap.size w w10) := B9.out.trans (hb.mono B9.out.size)
  clear hb R9
  go_wp2_with fail
  refine (aw_may ⟨#[97, 0]⟩ true may2 (by decide) a4 c4 _ R10.out).mono ?_; rintro e w11 ⟨rfl, hb⟩
  have R11 : Hid (StrRow 0 a4 c4 [⟨#[]⟩, ⟨#[97]⟩, ⟨#[97, 98]⟩] w11) := R10.out.below hb
  have y0 := (hb.cell (p := ⟨BY, 0, none⟩) yl).trans y0
  have y1 := (hb.cell (p := ⟨BY, 1, none⟩) yl).trans y1
  have yl := Nat.lt_of_lt_of_le yl hb.size
  have B11 : Hid (Below w.heap.size w w11) := B10.out.trans (hb.mono B10.out.size)
  clear hb R10
  go_wp2_with fail
  refine (aw_may ⟨#[]⟩ false may3 (by decide) a4 c4 _ R11.out).mono ?_; rintro e w12 ⟨rfl, hb⟩
  have R12 : Hid (StrRow 0 a4 c4 [⟨#[]⟩, ⟨#[97]⟩, ⟨#[97, 98]⟩] w12) := R11.out.below hb
  have y0 := (hb.cell (p := ⟨BY, 0, none⟩) yl).trans y0
  have y1 := (hb.cell (p := ⟨BY, 1, none⟩) yl).trans y1
  have yl := Nat.lt_of_lt_of_le yl hb.size
  have B12 : Hid (Below w.heap.size w w12) := B11.out.trans (hb.mono B11.out.size)
  clear hb R11
  go_wp2_with fail
  refine (aw_byte0 _).mono ?_; rintro e w13 ⟨rfl, rfl⟩
  go_wp2_with fail
  refine (aw_byte1 _).mono ?_; rintro e w14 ⟨rfl, rfl⟩
  go_wp2_with fail
  go_ret
  exact RetW.mk rfl B12.out
end Go.Proofs.Ytebdnnfaghhpkaa
