/- The sanity check of the areas. -/
import Derived.Test.YtpnoilpdlnlebaaMp
namespace Go.Proofs.Ytpnoilpdlnlebaa
open Go.ChangeShapes Go.WideShapes Go.ChangeAt Go.RowKit

def aw0 : Ar := ⟨1, 4, 1, 0, false⟩
theorem aw_map (w : World) : Calls Try.prog 10 #[.slice none 0 0, .agg #[.int .i64 1, .int .i64 4, .int .i64 1, .int .i64 0, .bool false]] w fun e w' => ∃ b c, e = .returned (.tuple #[.slice b 1 c, .int .i64 0]) ∧ ARow 0 b c [aw0] w' ∧ Below w.heap.size w w' := by
  have h := map_any 0 none [] 0 aw0 w (Or.inl ⟨rfl, rfl, rfl⟩) (by decide) (insOK_end (by decide) rfl)
  rw [show mapV [] aw0 = ([aw0], 0) from by kernel_rfl] at h
  refine h.mono ?_
  rintro e w' ⟨b, c, rfl, hr, hb⟩
  exact ⟨b, c, rfl, hr.mono (Nat.zero_le _), hb⟩
theorem aw_unmap (b : Option Addr) (c : Nat) (w : World) (h : ARow 0 b c [aw0] w) : Calls Try.prog 12 #[.slice b 1 c, .int .i64 2, .int .i64 1] w fun e w' => ∃ b' c', e = .returned (.tuple #[.slice b' 2 c', .int .i64 0]) ∧ ARow 0 b' c' [⟨1, 1, 1, 0, false⟩, ⟨3, 2, 1, 2, false⟩] w' ∧ Below w.heap.size w w' := by
  have h := unmap_any 0 b [aw0] c 2 1 w h (by decide)
  rw [show unmapV [aw0] 2 1 = ([⟨1, 1, 1, 0, false⟩, ⟨3, 2, 1, 2, false⟩], 0) from by kernel_rfl] at h
  refine h.mono ?_
  rintro e w' ⟨b, c, rfl, hr, hb⟩
  exact ⟨b, c, rfl, hr.mono (Nat.zero_le _), hb⟩
theorem aw_find (b : Option Addr) (c : Nat) (w : World) (h : ARow 0 b c [aw0] w) : Calls Try.prog 14 #[.slice b 1 c, .int .i64 3] w (RetW (.tuple #[.agg #[.int .i64 1, .int .i64 4, .int .i64 1, .int .i64 0, .bool false], .bool true]) w) := by
  have h := find_any 0 b [aw0] c 3 w h (by decide)
  rw [show findV [aw0] 3 = some aw0 from by kernel_rfl] at h
  exact h
theorem aw_room (b : Option Addr) (c : Nat) (w : World) (h : ARow 0 b c [aw0] w) : Calls Try.prog 16 #[.slice b 1 c, .int .i64 2] w (RetW (.tuple #[.int .i64 5, .bool true]) w) := by
  have h := room_any 0 b [aw0] c 2 w h (by decide)
  rw [show roomV [aw0] 2 = (5, true) from by kernel_rfl] at h
  exact h
theorem aw_shown (b : Option Addr) (c : Nat) (w : World) (h : ARow 0 b c [aw0] w) : Calls Try.prog 18 #[.slice b 1 c, .int .i64 1, .int .i64 2] w fun e w' => ∃ b' c', e = .returned (.slice b' 1 c') ∧ Below w.heap.size w w' := by
  have h := shown_any 0 b [aw0] c 1 2 w h (by decide) (by decide) (by decide)
  rw [show shownV [aw0] 1 2 = [3] from by kernel_rfl] at h
  refine h.mono ?_
  rintro e w' ⟨b, c, rfl, _, hb⟩
  exact ⟨b, c, rfl, hb⟩
theorem aw_check (b : Option Addr) (c : Nat) (w : World) (h : ARow 0 b c [⟨1, 1, 1, 0, false⟩, ⟨3, 2, 1, 2, false⟩] w) : Calls Try.prog 20 #[.slice b 2 c] w (RetW (.bool true) w) := by
  have h := check_any 0 b [⟨1, 1, 1, 0, false⟩, ⟨3, 2, 1, 2, false⟩] c w h (by decide)
  rw [show checkV [⟨1, 1, 1, 0, false⟩, ⟨3, 2, 1, 2, false⟩] = true from by kernel_rfl] at h
  exact h
theorem aw_check0 (b : Option Addr) (c : Nat) (w : World) (h : ARow 0 b c [Ar.zero] w) : Calls Try.prog 20 #[.slice b 1 c] w (RetW (.bool false) w) := by
  have h := check_any 0 b [Ar.zero] c w h (by decide)
  rw [show checkV [Ar.zero] = false from by kernel_rfl] at h
  exact h

set_option maxHeartbeats 4000000 in
theorem awake_any (w : World) : Calls Try.prog 23 #[] w (RetW (.bool true) w) := by
  go_enter Try.func23, Try.ntmps23
  go_wp2_with fail
  refine (aw_map _).mono ?_; rintro e w1 ⟨b, c, rfl, r1, hb⟩
  have HB : Hid (Below w.heap.size w w1) := hb
  have R1 := Lib.hid r1
  clear hb r1
  go_wp2_with fail
  refine (aw_unmap b c _ R1.out).mono ?_; rintro e w2 ⟨b2, c2, rfl, r2, hb⟩
  replace HB := Lib.hid (HB.out.trans (hb.mono HB.out.size))
  replace R1 := Lib.hid (R1.out.below hb)
  have R2 := Lib.hid r2
  clear hb r2
  go_wp2_with fail
  refine (aw_find b c _ R1.out).mono ?_; rintro e w3 ⟨rfl, hb⟩
  replace HB := Lib.hid (HB.out.trans (hb.mono HB.out.size))
  replace R1 := Lib.hid (R1.out.below hb); replace R2 := Lib.hid (R2.out.below hb)
  clear hb
  go_wp2_with fail
  have HF := Lib.hid (Blk.new w3 1 4 1 0 false)
  replace HB := Lib.hid (HB.out.alloc HB.out.size (Obj.cells #[Value.int IntKind.i64 1, Value.int IntKind.i64 4, Value.int IntKind.i64 1, Value.int IntKind.i64 0, Value.bool false] 30))
  replace R1 := Lib.hid (R1.out.below ((Below.refl _ _).alloc (Nat.le_refl _) (Obj.cells #[Value.int IntKind.i64 1, Value.int IntKind.i64 4, Value.int IntKind.i64 1, Value.int IntKind.i64 0, Value.bool false] 30))); replace R2 := Lib.hid (R2.out.below ((Below.refl _ _).alloc (Nat.le_refl _) (Obj.cells #[Value.int IntKind.i64 1, Value.int IntKind.i64 4, Value.int IntKind.i64 1, Value.int IntKind.i64 0, Value.bool false] 30)))
  generalize w3.alloc (Obj.cells #[Value.int IntKind.i64 1, Value.int IntKind.i64 4, Value.int IntKind.i64 1, Value.int IntKind.i64 0, Value.bool false] 30) = w4 at *
  generalize w3.heap.size = FB at *
  refine (aw_room b c _ R1.out).mono ?_; rintro e w5 ⟨rfl, hb⟩
  replace HB := Lib.hid (HB.out.trans (hb.mono HB.out.size))
  replace R1 := Lib.hid (R1.out.below hb); replace R2 := Lib.hid (R2.out.below hb); replace HF := Lib.hid (HF.out.below hb)
  clear hb
  obtain ⟨g, rfl, _, hg, hcap, _, hcel⟩ := R2.out.at (by decide)
  have hc1 := hcel 1 (by decide)
  have hcapi : (2 : Int) ≤ (c2 : Int) := by have : 2 ≤ c2 := hcap; omega
  have m0 : w5.cell? ⟨g, 5, none⟩ = some (.int .i64 3) := hc1.c0
  have m1 : w5.cell? ⟨g, 6, none⟩ = some (.int .i64 2) := hc1.c1
  have m3 : w5.cell? ⟨g, 8, none⟩ = some (.int .i64 2) := hc1.c3
  have f0 : w5.cell? ⟨FB, 0, none⟩ = some (.int .i64 1) := HF.out.c0
  clear hcel hcap hc1
  go_wp2_with fail
  refine (aw_shown b c _ R1.out).mono ?_; rintro e w6 ⟨b6, c6, rfl, hb⟩
  replace HB := Lib.hid (HB.out.trans (hb.mono HB.out.size))
  replace R2 := Lib.hid (R2.out.below hb)
  clear hb m0 m1 m3 f0 HF
  go_wp2_with fail
  refine (aw_check _ c2 _ R2.out).mono ?_; rintro e w7 ⟨rfl, hb⟩
  replace HB := Lib.hid (HB.out.trans (hb.mono HB.out.size))
  clear hb R2
  go_wp2_with fail
  have HZ := Blk.new w7 0 0 0 0 false
  have R8 : ARow 0 (some ⟨w7.heap.size, 0, none⟩) 1 [Ar.zero] (w7.alloc (Obj.cells #[Value.int IntKind.i64 0, Value.int IntKind.i64 0, Value.int IntKind.i64 0, Value.int IntKind.i64 0, Value.bool false] 30)) := by
    refine Or.inr ⟨w7.heap.size, rfl, Nat.zero_le _, by simp, by simp, by unfold maxLen; omega, fun j hj => ?_⟩
    have : j = 0 := by simpa using hj
    subst this
    exact ⟨HZ.c0, HZ.c1, HZ.c2, HZ.c3, HZ.c4⟩
  replace HB := Lib.hid (HB.out.alloc HB.out.size (Obj.cells #[Value.int IntKind.i64 0, Value.int IntKind.i64 0, Value.int IntKind.i64 0, Value.int IntKind.i64 0, Value.bool false] 30))
  refine (aw_check0 _ _ _ R8).mono ?_; rintro e w8 ⟨rfl, hb⟩
  replace HB := Lib.hid (HB.out.trans (hb.mono HB.out.size))
  clear hb R8 HZ
  go_wp2_with fail
  go_ret
  exact RetW.mk rfl HB.out
end Go.Proofs.Ytpnoilpdlnlebaa
