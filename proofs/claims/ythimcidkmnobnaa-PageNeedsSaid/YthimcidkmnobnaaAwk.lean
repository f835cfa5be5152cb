/- The sanity check of the laws. -/
import Derived.Test.YthimcidkmnobnaaNew
namespace Go.Proofs.Ythimcidkmnobnaa
open Go.ChangeShapes Go.WideShapes Go.ChangeAt Go.RowKit

/-- block b holds the page p -/
structure Has (w : World) (b : Nat) (p : Pg) : Prop where
  lt : b < w.heap.size
  c0 : w.cell? ⟨b, 0, none⟩ = some (.string p.d)
  c1 : w.cell? ⟨b, 1, none⟩ = some (.int .i64 p.v)
  c2 : w.cell? ⟨b, 2, none⟩ = some (.int .i64 p.e)
theorem Has.new (w : World) (d : ByteArray) (v e : Int) : Has (w.alloc (.cells #[.string d, .int .i64 v, .int .i64 e] 27)) w.heap.size ⟨d, v, e⟩ := ⟨by simp, by simp, by simp, by simp⟩
theorem Has.below {w w' : World} {b : Nat} {p : Pg} (h : Has w b p) (hb : Below w.heap.size w w') : Has w' b p :=
  ⟨Nat.lt_of_lt_of_le h.lt hb.size, (hb.cell (p := ⟨b, 0, none⟩) h.lt).trans h.c0, (hb.cell (p := ⟨b, 1, none⟩) h.lt).trans h.c1, (hb.cell (p := ⟨b, 2, none⟩) h.lt).trans h.c2⟩
theorem Has.alloc {w : World} {b : Nat} {p : Pg} (h : Has w b p) (o : Obj) : Has (w.alloc o) b p := h.below ((Below.refl _ _).alloc (Nat.le_refl _) o)

def ZD : ByteArray := zeros 16
def PD : ByteArray := ⟨#[0, 0, 0, 0, 0, 0, 0, 0, 97, 98, 99, 100, 101, 102, 103, 104]⟩
def QD : ByteArray := ⟨#[48, 49, 50, 51, 52, 53, 54, 55, 97, 98, 99, 100, 101, 102, 103, 104]⟩
theorem aw_new (w : World) : Calls Try.prog 18 #[] w (RetW (.agg #[.string ZD, .int .i64 0, .int .i64 0]) w) := new_any w
theorem aw_write (w : World) : Calls Try.prog 26 #[.agg #[.string ZD, .int .i64 0, .int .i64 0], .int .i64 8, .string ⟨#[97, 98, 99, 100, 101, 102, 103, 104]⟩] w (RetW (.tuple #[.agg #[.string PD, .int .i64 2, .int .i64 2], .int .i64 0]) w) := by
  have h := write_any ⟨ZD, 0, 0⟩ 8 ⟨#[97, 98, 99, 100, 101, 102, 103, 104]⟩ w (by decide) (by decide)
  rw [show writeV ⟨ZD, 0, 0⟩ 8 ⟨#[97, 98, 99, 100, 101, 102, 103, 104]⟩ = (⟨PD, 2, 2⟩, 0) from by kernel_rfl] at h
  exact h
theorem aw_read (w : World) : Calls Try.prog 14 #[.agg #[.string PD, .int .i64 2, .int .i64 2], .int .i64 9, .int .i64 3] w (RetW (.tuple #[.string ⟨#[98, 99, 100]⟩, .int .i64 0]) w) := by
  have h := read_any ⟨PD, 2, 2⟩ 9 3 w (by decide)
  rw [show readV ⟨PD, 2, 2⟩ 9 3 = (⟨#[98, 99, 100]⟩, 0) from by kernel_rfl] at h
  exact h
theorem aw_read2 (w : World) : Calls Try.prog 14 #[.agg #[.string PD, .int .i64 2, .int .i64 2], .int .i64 0, .int .i64 1] w (RetW (.tuple #[.string ⟨#[]⟩, .int .i64 7]) w) := by
  have h := read_any ⟨PD, 2, 2⟩ 0 1 w (by decide)
  rw [show readV ⟨PD, 2, 2⟩ 0 1 = (⟨#[]⟩, 7) from by kernel_rfl] at h
  exact h
theorem aw_fill (w : World) : Calls Try.prog 24 #[.agg #[.string PD, .int .i64 2, .int .i64 2], .int .i64 3, .string ⟨#[48, 49, 50, 51, 52, 53, 54, 55, 56, 57, 48, 49, 50, 51, 52, 53]⟩] w (RetW (.tuple #[.agg #[.string QD, .int .i64 3, .int .i64 2], .int .i64 0]) w) := by
  have h := fill_any ⟨PD, 2, 2⟩ 3 ⟨#[48, 49, 50, 51, 52, 53, 54, 55, 56, 57, 48, 49, 50, 51, 52, 53]⟩ w (by decide) (by decide)
  rw [show fillV ⟨PD, 2, 2⟩ 3 ⟨#[48, 49, 50, 51, 52, 53, 54, 55, 56, 57, 48, 49, 50, 51, 52, 53]⟩ = (⟨QD, 3, 2⟩, 0) from by kernel_rfl] at h
  exact h
theorem aw_needs (w : World) : Calls Try.prog 12 #[.agg #[.string ZD, .int .i64 0, .int .i64 0], .int .i64 7, .int .i64 2, .bool true] w (RetW (.tuple #[.int .i64 3, .int .i64 0]) w) := by
  have h := needs_any ⟨ZD, 0, 0⟩ 7 2 true w (by decide)
  rw [show needV ⟨ZD, 0, 0⟩ 7 2 true = (3, 0) from by kernel_rfl] at h
  exact h
theorem aw_clean (w : World) : Calls Try.prog 28 #[.agg #[.string PD, .int .i64 2, .int .i64 2], .int .i64 2] w (RetW (.tuple #[.agg #[.string PD, .int .i64 2, .int .i64 0], .int .i64 0]) w) := by
  have h := clean_any ⟨PD, 2, 2⟩ 2 w (by decide)
  rw [show cleanV ⟨PD, 2, 2⟩ 2 = (⟨PD, 2, 0⟩, 0) from by kernel_rfl] at h
  exact h
theorem aw_soil (w : World) : Calls Try.prog 30 #[.agg #[.string PD, .int .i64 2, .int .i64 0], .int .i64 3] w (RetW (.tuple #[.agg #[.string PD, .int .i64 2, .int .i64 2], .int .i64 0]) w) := by
  have h := soil_any ⟨PD, 2, 0⟩ 3 w (by decide)
  rw [show soilV ⟨PD, 2, 0⟩ 3 = (⟨PD, 2, 2⟩, 0) from by kernel_rfl] at h
  exact h
theorem aw_hole (w : World) : Calls Try.prog 20 #[] w (RetW (.agg #[.string ZD, .int .i64 3, .int .i64 0]) w) := hole_any w
theorem aw_check (w : World) : Calls Try.prog 16 #[.agg #[.string ZD, .int .i64 3, .int .i64 0]] w (RetW (.bool true) w) := by
  have h := check_any ⟨ZD, 3, 0⟩ w (by decide)
  rw [show chk ⟨ZD, 3, 0⟩ = true from by kernel_rfl] at h
  exact h

set_option maxRecDepth 100000 in
set_option maxHeartbeats 4000000 in
theorem awake_any (w : World) : Calls Try.prog 22 #[] w (RetW (.bool true) w) := by
  have hq : QD.extract 0 9 = ⟨#[48, 49, 50, 51, 52, 53, 54, 55, 97]⟩ := by kernel_rfl
  have hqs : QD.size = 16 := by kernel_rfl
  have HQ := Lib.hid (And.intro hq hqs)
  clear hq hqs
  go_enter Try.func22, Try.ntmps22
  go_wp2_with fail
  refine (aw_new _).mono ?_; rintro e w1 ⟨rfl, hb⟩
  have HB1 := Lib.hid hb
  clear hb
  go_wp2_with fail
  refine (aw_write _).mono ?_; rintro e w2 ⟨rfl, hb⟩
  have HB2 := Lib.hid (HB1.out.trans (hb.mono HB1.out.size)); clear HB1
  clear hb
  go_wp2_with fail
  have hP := Has.new w2 PD 2 2
  have HB3 := Lib.hid (HB2.out.alloc HB2.out.size (.cells #[.string PD, .int .i64 2, .int .i64 2] 27)); clear HB2
  skip
  have hPlt : w2.heap.size < w2.heap.size + 1 := by omega
  generalize w2.alloc (.cells #[.string PD, .int .i64 2, .int .i64 2] 27) = w3 at *
  generalize w2.heap.size = BhP at *
  clear hPlt
  replace hP0 := hP.c0
  replace hP1 := hP.c1
  replace hP2 := hP.c2
  refine (aw_read _).mono ?_; rintro e w4 ⟨rfl, hb⟩
  have HB4 := Lib.hid (HB3.out.trans (hb.mono HB3.out.size)); clear HB3
  replace hP := hP.below hb
  replace hP0 := hP.c0
  replace hP1 := hP.c1
  replace hP2 := hP.c2
  clear hb
  go_wp2_with fail
  refine (aw_read2 _).mono ?_; rintro e w5 ⟨rfl, hb⟩
  have HB5 := Lib.hid (HB4.out.trans (hb.mono HB4.out.size)); clear HB4
  replace hP := hP.below hb
  replace hP0 := hP.c0
  replace hP1 := hP.c1
  replace hP2 := hP.c2
  clear hb
  go_wp2_with fail
  refine (aw_fill _).mono ?_; rintro e w6 ⟨rfl, hb⟩
  have HB6 := Lib.hid (HB5.out.trans (hb.mono HB5.out.size)); clear HB5
  replace hP := hP.below hb
  replace hP0 := hP.c0
  replace hP1 := hP.c1
  replace hP2 := hP.c2
  clear hb
  go_wp2_with fail
  have hQ := Has.new w6 QD 3 2
  replace hP := hP.alloc (.cells #[.string QD, .int .i64 3, .int .i64 2] 27)
  have HB7 := Lib.hid (HB6.out.alloc HB6.out.size (.cells #[.string QD, .int .i64 3, .int .i64 2] 27)); clear HB6
  clear hP0 hP1 hP2
  have hQlt : w6.heap.size < w6.heap.size + 1 := by omega
  generalize w6.alloc (.cells #[.string QD, .int .i64 3, .int .i64 2] 27) = w7 at *
  generalize w6.heap.size = BhQ at *
  clear hQlt
  replace hP0 := hP.c0
  replace hP1 := hP.c1
  replace hP2 := hP.c2
  replace hQ0 := hQ.c0
  replace hQ1 := hQ.c1
  replace hQ2 := hQ.c2
  refine (aw_new _).mono ?_; rintro e w8 ⟨rfl, hb⟩
  have HB8 := Lib.hid (HB7.out.trans (hb.mono HB7.out.size)); clear HB7
  replace hP := hP.below hb
  replace hP0 := hP.c0
  replace hP1 := hP.c1
  replace hP2 := hP.c2
  replace hQ := hQ.below hb
  replace hQ0 := hQ.c0
  replace hQ1 := hQ.c1
  replace hQ2 := hQ.c2
  clear hb
  go_wp2_with fail
  refine (aw_needs _).mono ?_; rintro e w9 ⟨rfl, hb⟩
  have HB9 := Lib.hid (HB8.out.trans (hb.mono HB8.out.size)); clear HB8
  replace hP := hP.below hb
  replace hP0 := hP.c0
  replace hP1 := hP.c1
  replace hP2 := hP.c2
  replace hQ := hQ.below hb
  replace hQ0 := hQ.c0
  replace hQ1 := hQ.c1
  replace hQ2 := hQ.c2
  clear hb
  go_wp2_with fail
  refine (aw_clean _).mono ?_; rintro e w10 ⟨rfl, hb⟩
  have HB10 := Lib.hid (HB9.out.trans (hb.mono HB9.out.size)); clear HB9
  replace hP := hP.below hb
  replace hP0 := hP.c0
  replace hP1 := hP.c1
  replace hP2 := hP.c2
  replace hQ := hQ.below hb
  replace hQ0 := hQ.c0
  replace hQ1 := hQ.c1
  replace hQ2 := hQ.c2
  clear hb
  go_wp2_with fail
  have hC := Has.new w10 PD 2 0
  replace hP := hP.alloc (.cells #[.string PD, .int .i64 2, .int .i64 0] 27)
  replace hQ := hQ.alloc (.cells #[.string PD, .int .i64 2, .int .i64 0] 27)
  have HB11 := Lib.hid (HB10.out.alloc HB10.out.size (.cells #[.string PD, .int .i64 2, .int .i64 0] 27)); clear HB10
  clear hP0 hP1 hP2 hQ0 hQ1 hQ2
  have hClt : w10.heap.size < w10.heap.size + 1 := by omega
  generalize w10.alloc (.cells #[.string PD, .int .i64 2, .int .i64 0] 27) = w11 at *
  generalize w10.heap.size = BhC at *
  clear hClt
  replace hP0 := hP.c0
  replace hP1 := hP.c1
  replace hP2 := hP.c2
  replace hQ0 := hQ.c0
  replace hQ1 := hQ.c1
  replace hQ2 := hQ.c2
  replace hC0 := hC.c0
  replace hC1 := hC.c1
  replace hC2 := hC.c2
  refine (aw_soil _).mono ?_; rintro e w12 ⟨rfl, hb⟩
  have HB12 := Lib.hid (HB11.out.trans (hb.mono HB11.out.size)); clear HB11
  replace hP := hP.below hb
  replace hP0 := hP.c0
  replace hP1 := hP.c1
  replace hP2 := hP.c2
  replace hQ := hQ.below hb
  replace hQ0 := hQ.c0
  replace hQ1 := hQ.c1
  replace hQ2 := hQ.c2
  replace hC := hC.below hb
  replace hC0 := hC.c0
  replace hC1 := hC.c1
  replace hC2 := hC.c2
  clear hb
  have hPl := hP.lt; have hQl := hQ.lt; have hCl := hC.lt
  obtain ⟨hq, hqs⟩ := HQ.out
  go_wp2_with fail
  clear hPl hQl hCl hq hqs
  have hD := Has.new w12 PD 2 2
  replace hP := hP.alloc (.cells #[.string PD, .int .i64 2, .int .i64 2] 27)
  replace hQ := hQ.alloc (.cells #[.string PD, .int .i64 2, .int .i64 2] 27)
  replace hC := hC.alloc (.cells #[.string PD, .int .i64 2, .int .i64 2] 27)
  have HB13 := Lib.hid (HB12.out.alloc HB12.out.size (.cells #[.string PD, .int .i64 2, .int .i64 2] 27)); clear HB12
  clear hP0 hP1 hP2 hQ0 hQ1 hQ2 hC0 hC1 hC2
  have hDlt : w12.heap.size < w12.heap.size + 1 := by omega
  generalize w12.alloc (.cells #[.string PD, .int .i64 2, .int .i64 2] 27) = w13 at *
  generalize w12.heap.size = BhD at *
  clear hDlt
  replace hP0 := hP.c0
  replace hP1 := hP.c1
  replace hP2 := hP.c2
  replace hQ0 := hQ.c0
  replace hQ1 := hQ.c1
  replace hQ2 := hQ.c2
  replace hC0 := hC.c0
  replace hC1 := hC.c1
  replace hC2 := hC.c2
  replace hD0 := hD.c0
  replace hD1 := hD.c1
  replace hD2 := hD.c2
  refine (aw_hole _).mono ?_; rintro e w14 ⟨rfl, hb⟩
  have HB14 := Lib.hid (HB13.out.trans (hb.mono HB13.out.size)); clear HB13
  replace hP := hP.below hb
  replace hP0 := hP.c0
  replace hP1 := hP.c1
  replace hP2 := hP.c2
  replace hQ := hQ.below hb
  replace hQ0 := hQ.c0
  replace hQ1 := hQ.c1
  replace hQ2 := hQ.c2
  replace hC := hC.below hb
  replace hC0 := hC.c0
  replace hC1 := hC.c1
  replace hC2 := hC.c2
  replace hD := hD.below hb
  replace hD0 := hD.c0
  replace hD1 := hD.c1
  replace hD2 := hD.c2
  clear hb
  go_wp2_with fail
  refine (aw_check _).mono ?_; rintro e w15 ⟨rfl, hb⟩
  have HB15 := Lib.hid (HB14.out.trans (hb.mono HB14.out.size)); clear HB14
  replace hP := hP.below hb
  replace hP0 := hP.c0
  replace hP1 := hP.c1
  replace hP2 := hP.c2
  replace hQ := hQ.below hb
  replace hQ0 := hQ.c0
  replace hQ1 := hQ.c1
  replace hQ2 := hQ.c2
  replace hC := hC.below hb
  replace hC0 := hC.c0
  replace hC1 := hC.c1
  replace hC2 := hC.c2
  replace hD := hD.below hb
  replace hD0 := hD.c0
  replace hD1 := hD.c1
  replace hD2 := hD.c2
  clear hb
  go_wp2_with fail
  refine (aw_hole _).mono ?_; rintro e w16 ⟨rfl, hb⟩
  have HB16 := Lib.hid (HB15.out.trans (hb.mono HB15.out.size)); clear HB15
  replace hP := hP.below hb
  replace hP0 := hP.c0
  replace hP1 := hP.c1
  replace hP2 := hP.c2
  replace hQ := hQ.below hb
  replace hQ0 := hQ.c0
  replace hQ1 := hQ.c1
  replace hQ2 := hQ.c2
  replace hC := hC.below hb
  replace hC0 := hC.c0
  replace hC1 := hC.c1
  replace hC2 := hC.c2
  replace hD := hD.below hb
  replace hD0 := hD.c0
  replace hD1 := hD.c1
  replace hD2 := hD.c2
  clear hb
  have hfld : ∀ w, (Instr.field 27 (.agg #[.string ZD, .int .i64 3, .int .i64 0]) 1).run Try.prog w = .ok (.int .i64 3) w := fun _ => by kernel_rfl
  go_wp2_with fail
  go_ret
  exact RetW.mk rfl HB16.out
end Go.Proofs.Ythimcidkmnobnaa
