/- The law's awake(). -/
import Derived.Test.YtodonnagmgbliaaAs
namespace Go.Proofs.Ytodonnagmgbliaa
open Go.ChangeShapes Go.WideShapes Go.ChangeAt Go.RowKit

def aw1 : Ar := ⟨1, 2, 3, true, true⟩
def aw2 : Ar := ⟨0, 5, 3, false, false⟩
def awP : List Ar := [⟨0, 5, 3, false, false⟩, ⟨1, 2, 3, false, true⟩]
def awY : List Ar := [⟨0, 5, 3, false, false⟩, ⟨1, 2, 3, true, false⟩]
theorem aw_e1 (w : World) : Calls Try.prog 10 #[.slice none 0 0, .agg #[.int .i64 1, .int .i64 2, .int .i64 3, .bool true, .bool true]] w fun e w' => ∃ b c, e = .returned (.tuple #[.slice b 1 c, .int .i64 0]) ∧ ARow 0 b c [aw1] w' ∧ Below w.heap.size w w' := by
  have h := enter_any 0 none [] 0 aw1 w (Or.inl ⟨rfl, rfl, rfl⟩) (by decide)
  rw [show enterL [] aw1 = [aw1] from by kernel_rfl, show enterE [] aw1 = 0 from by kernel_rfl] at h
  refine h.mono ?_
  rintro e w' ⟨b, c, rfl, hr, hb⟩
  exact ⟨b, c, rfl, hr.mono (Nat.zero_le _), hb⟩
theorem aw_e2 (b : Option Addr) (c : Nat) (w : World) (h : ARow 0 b c [aw1] w) : Calls Try.prog 10 #[.slice b 1 c, .agg #[.int .i64 0, .int .i64 5, .int .i64 3, .bool false, .bool false]] w fun e w' => ∃ b c, e = .returned (.tuple #[.slice b 2 c, .int .i64 0]) ∧ ARow 0 b c [aw2, aw1] w' ∧ Below w.heap.size w w' := by
  have h := enter_any 0 b [aw1] c aw2 w h (by decide)
  rw [show enterL [aw1] aw2 = [aw2, aw1] from by kernel_rfl, show enterE [aw1] aw2 = 0 from by kernel_rfl] at h
  refine h.mono ?_
  rintro e w' ⟨b, c, rfl, hr, hb⟩
  exact ⟨b, c, rfl, hr.mono (Nat.zero_le _), hb⟩
theorem aw_pro (b : Option Addr) (c : Nat) (w : World) (h : ARow 0 b c [aw2, aw1] w) : Calls Try.prog 25 #[.slice b 2 c, .int .i64 3] w fun e w' => ∃ b c, e = .returned (.slice b 2 c) ∧ ARow 0 b c awP w' ∧ Below w.heap.size w w' := by
  have h := protect_any 3 0 b [aw2, aw1] c w h (by decide)
  rw [show mapL [aw2, aw1] (proF 3) = awP from by kernel_rfl] at h
  refine h.mono ?_
  rintro e w' ⟨b, c, rfl, hr, hb⟩
  exact ⟨b, c, rfl, hr.mono (Nat.zero_le _), hb⟩
theorem aw_get (b : Option Addr) (c : Nat) (w : World) (h : ARow 0 b c awP w) : Calls Try.prog 12 #[.slice b 2 c, .int .i64 1, .int .i64 2] w (RetW (.tuple #[.agg #[.int .i64 1, .int .i64 2, .int .i64 3, .bool false, .bool true], .bool true]) w) := by
  have h := get_any 0 b awP c 1 2 w h (by decide)
  rw [show getV awP 1 2 = some ⟨1, 2, 3, false, true⟩ from by kernel_rfl] at h
  exact h
theorem aw_you (b : Option Addr) (c : Nat) (w : World) (h : ARow 0 b c [aw2, aw1] w) : Calls Try.prog 14 #[.slice b 2 c, .int .i64 3] w fun e w' => ∃ b c, e = .returned (.tuple #[.slice b 2 c, .bool true]) ∧ ARow 0 b c awY w' ∧ Below w.heap.size w w' := by
  have h := young_any 3 0 b [aw2, aw1] c w h (by decide)
  rw [show mapL [aw2, aw1] (youF 3) = awY from by kernel_rfl, show youB [aw2, aw1] 3 = true from by kernel_rfl] at h
  refine h.mono ?_
  rintro e w' ⟨b, c, rfl, hr, hb⟩
  exact ⟨b, c, rfl, hr.mono (Nat.zero_le _), hb⟩
theorem aw_of (b : Option Addr) (c : Nat) (w : World) (h : ARow 0 b c [aw2, aw1] w) : Calls Try.prog 21 #[.slice b 2 c, .int .i64 3] w fun e w' => ∃ b c, e = .returned (.slice b 2 c) ∧ Below w.heap.size w w' := by
  have h := of_any 3 0 b [aw2, aw1] c w h (by decide)
  rw [show ofL [aw2, aw1] 3 = [aw2, aw1] from by kernel_rfl] at h
  refine h.mono ?_
  rintro e w' ⟨b, c, rfl, hr, hb⟩
  exact ⟨b, c, rfl, hb⟩
theorem aw_drop (b : Option Addr) (c : Nat) (w : World) (h : ARow 0 b c [aw2, aw1] w) : Calls Try.prog 23 #[.slice b 2 c, .int .i64 3] w fun e w' => ∃ b c, e = .returned (.slice b 0 c) ∧ Below w.heap.size w w' := by
  have h := drop_any 3 0 b [aw2, aw1] c w h (by decide)
  rw [show cutL [aw2, aw1] (frB 3) = [] from by kernel_rfl] at h
  refine h.mono ?_
  rintro e w' ⟨b, c, rfl, hr, hb⟩
  exact ⟨b, c, rfl, hb⟩
theorem aw_zap (b : Option Addr) (c : Nat) (w : World) (h : ARow 0 b c [aw2, aw1] w) : Calls Try.prog 19 #[.slice b 2 c, .int .i64 1, .int .i64 0, .int .i64 9] w fun e w' => ∃ b c, e = .returned (.slice b 1 c) ∧ Below w.heap.size w w' := by
  have h := zap_any 1 0 9 0 b [aw2, aw1] c w h (by decide)
  rw [show cutL [aw2, aw1] (zapB 1 0 9) = [aw2] from by kernel_rfl] at h
  refine h.mono ?_
  rintro e w' ⟨b, c, rfl, hr, hb⟩
  exact ⟨b, c, rfl, hb⟩
theorem aw_check (b : Option Addr) (c : Nat) (w : World) (h : ARow 0 b c [aw2, aw1] w) : Calls Try.prog 16 #[.slice b 2 c] w (RetW (.bool true) w) := by
  have h := check_any 0 b [aw2, aw1] c w h (by decide)
  rw [show checkV [aw2, aw1] = true from by kernel_rfl] at h
  exact h
theorem aw_check0 (b : Option Addr) (c : Nat) (w : World) (h : ARow 0 b c [Ar.zero] w) : Calls Try.prog 16 #[.slice b 1 c] w (RetW (.bool false) w) := by
  have h := check_any 0 b [Ar.zero] c w h (by decide)
  rw [show checkV [Ar.zero] = false from by kernel_rfl] at h
  exact h

set_option maxRecDepth 100000 in
set_option maxHeartbeats 4000000 in
theorem awake_any (w : World) : Calls Try.prog 27 #[] w (RetW (.bool true) w) := by
  go_enter Try.func27, Try.ntmps27
  go_wp2_with fail
  refine (aw_e1 _).mono ?_; rintro e w1 ⟨b, c, rfl, r1, hb⟩
  have HB : Hid (Below w.heap.size w w1) := hb
  have R1 := Lib.hid r1
  clear hb r1
  go_wp2_with fail
  refine (aw_e2 b c _ R1.out).mono ?_; rintro e w2 ⟨b2, c2, rfl, r2, hb⟩
  replace HB := Lib.hid (HB.out.trans (hb.mono HB.out.size))
  have R2 := Lib.hid r2
  clear hb r2 R1
  go_wp2_with fail
  refine (aw_pro b2 c2 _ R2.out).mono ?_; rintro e w3 ⟨b3, c3, rfl, r3, hb⟩
  replace HB := Lib.hid (HB.out.trans (hb.mono HB.out.size))
  replace R2 := Lib.hid (R2.out.below hb)
  have R3 := Lib.hid r3
  clear hb r3
  go_wp2_with fail
  refine (aw_get b3 c3 _ R3.out).mono ?_; rintro e w4 ⟨rfl, hb⟩
  replace HB := Lib.hid (HB.out.trans (hb.mono HB.out.size))
  replace R2 := Lib.hid (R2.out.below hb)
  clear hb R3
  go_wp2_with fail
  have HF := Lib.hid (Blk.new w4 1 2 3 false true)
  replace HB := Lib.hid (HB.out.alloc HB.out.size (Obj.cells #[Value.int IntKind.i64 1, Value.int IntKind.i64 2, Value.int IntKind.i64 3, Value.bool false, Value.bool true] 30))
  replace R2 := Lib.hid (R2.out.below ((Below.refl _ _).alloc (Nat.le_refl _) (Obj.cells #[Value.int IntKind.i64 1, Value.int IntKind.i64 2, Value.int IntKind.i64 3, Value.bool false, Value.bool true] 30)))
  generalize w4.alloc (Obj.cells #[Value.int IntKind.i64 1, Value.int IntKind.i64 2, Value.int IntKind.i64 3, Value.bool false, Value.bool true] 30) = w5 at *
  generalize w4.heap.size = FB at *
  refine (aw_you b2 c2 _ R2.out).mono ?_; rintro e w6 ⟨b6, c6, rfl, r6, hb⟩
  replace HB := Lib.hid (HB.out.trans (hb.mono HB.out.size))
  replace R2 := Lib.hid (R2.out.below hb); replace HF := Lib.hid (HF.out.below hb)
  obtain ⟨g, rfl, _, hg, hcap, _, hcel⟩ := r6.at (by decide)
  have hc1 := hcel 1 (by decide)
  have hcapi : (2 : Int) ≤ (c6 : Int) := by have : 2 ≤ c6 := hcap; omega
  have m4 : w6.cell? ⟨g, 9, none⟩ = some (.bool false) := hc1.c4
  have f2 : w6.cell? ⟨FB, 2, none⟩ = some (.int .i64 3) := HF.out.c2
  have f3 : w6.cell? ⟨FB, 3, none⟩ = some (.bool false) := HF.out.c3
  clear hcel hcap hc1 hb r6
  go_wp2_with fail
  refine (aw_of b2 c2 _ R2.out).mono ?_; rintro e w7 ⟨b7, c7, rfl, hb⟩
  replace HB := Lib.hid (HB.out.trans (hb.mono HB.out.size))
  replace R2 := Lib.hid (R2.out.below hb)
  clear hb m4 f2 f3 HF
  go_wp2_with fail
  refine (aw_drop b2 c2 _ R2.out).mono ?_; rintro e w8 ⟨b8, c8, rfl, hb⟩
  replace HB := Lib.hid (HB.out.trans (hb.mono HB.out.size))
  replace R2 := Lib.hid (R2.out.below hb)
  clear hb
  go_wp2_with fail
  refine (aw_zap b2 c2 _ R2.out).mono ?_; rintro e w9 ⟨b9, c9, rfl, hb⟩
  replace HB := Lib.hid (HB.out.trans (hb.mono HB.out.size))
  replace R2 := Lib.hid (R2.out.below hb)
  clear hb
  go_wp2_with fail
  refine (aw_check _ c2 _ R2.out).mono ?_; rintro e w10 ⟨rfl, hb⟩
  replace HB := Lib.hid (HB.out.trans (hb.mono HB.out.size))
  clear hb R2
  go_wp2_with fail
  have HZ := Blk.new w10 0 0 0 false false
  have R8 : ARow 0 (some ⟨w10.heap.size, 0, none⟩) 1 [Ar.zero] (w10.alloc (Obj.cells #[Value.int IntKind.i64 0, Value.int IntKind.i64 0, Value.int IntKind.i64 0, Value.bool false, Value.bool false] 30)) := by
    refine Or.inr ⟨w10.heap.size, rfl, Nat.zero_le _, by simp, by simp, by unfold maxLen; omega, fun j hj => ?_⟩
    have : j = 0 := by simpa using hj
    subst this
    exact ⟨HZ.c0, HZ.c1, HZ.c2, HZ.c3, HZ.c4⟩
  replace HB := Lib.hid (HB.out.alloc HB.out.size (Obj.cells #[Value.int IntKind.i64 0, Value.int IntKind.i64 0, Value.int IntKind.i64 0, Value.bool false, Value.bool false] 30))
  refine (aw_check0 _ _ _ R8).mono ?_; rintro e w11 ⟨rfl, hb⟩
  replace HB := Lib.hid (HB.out.trans (hb.mono HB.out.size))
  clear hb R8 HZ
  go_wp2_with fail
  go_ret
  exact RetW.mk rfl HB.out
end Go.Proofs.Ytodonnagmgbliaa
