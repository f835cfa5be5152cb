/- The walk of CompleteExact. -/
import Derived.Test.YtppkbifhhpakgaaWOrder
import Derived.Test.YtppkbifhhpakgaaBegAll
namespace Go.Proofs.Ytppkbifhhpakgaa
open Go.ChangeShapes Go.WideShapes Go.ChangeAt Go.RowKit

set_option maxRecDepth 100000 in
set_option maxHeartbeats 8000000 in
theorem exact_walk (i t d k s c : Int) (D : ByteArray) (p f : Bool) (m : Int) (i2 t2 d2 k2 s2 c2 : Int) (D2 : ByteArray) (p2 f2 : Bool) (m2 st lf er ea : Int) (P : ByteArray) (cp off cnt x now : Int) (dd : ByteArray) (w : World)
    (hP : P.size ≤ maxLen) (hd : dd.size ≤ maxLen) :
    Calls Try.prog 3 #[.agg #[.int .i64 i, .int .i64 t, .int .i64 d, .int .i64 k, .int .i64 s, .int .i64 c, .string D, .bool p, .bool f, .int .i64 m], .agg #[.int .i64 i2, .int .i64 t2, .int .i64 d2, .int .i64 k2, .int .i64 s2, .int .i64 c2, .string D2, .bool p2, .bool f2, .int .i64 m2, .int .i64 st, .int .i64 lf, .int .i64 er, .int .i64 ea, .string P, .int .i64 cp], .int .i64 off, .int .i64 cnt, .int .i64 x, .int .i64 now, .string dd] w (RetW (.bool true) w) := by
  have hA7 := (At.new w [.int .i64 i, .int .i64 t, .int .i64 d, .int .i64 k, .int .i64 s, .int .i64 c, .string D, .bool p, .bool f, .int .i64 m] 23).alloc (.cells ([.int .i64 i2, .int .i64 t2, .int .i64 d2, .int .i64 k2, .int .i64 s2, .int .i64 c2, .string D2, .bool p2, .bool f2, .int .i64 m2, .int .i64 st, .int .i64 lf, .int .i64 er, .int .i64 ea, .string P, .int .i64 cp]).toArray 26)
  have hA8 := (At.new (w.alloc (.cells ([.int .i64 i, .int .i64 t, .int .i64 d, .int .i64 k, .int .i64 s, .int .i64 c, .string D, .bool p, .bool f, .int .i64 m]).toArray 23)) [.int .i64 i2, .int .i64 t2, .int .i64 d2, .int .i64 k2, .int .i64 s2, .int .i64 c2, .string D2, .bool p2, .bool f2, .int .i64 m2, .int .i64 st, .int .i64 lf, .int .i64 er, .int .i64 ea, .string P, .int .i64 cp] 26).cast (b' := w.heap.size + 1) (by simp)
  have hB : Below w.heap.size w ((w.alloc (.cells ([.int .i64 i, .int .i64 t, .int .i64 d, .int .i64 k, .int .i64 s, .int .i64 c, .string D, .bool p, .bool f, .int .i64 m]).toArray 23)).alloc (.cells ([.int .i64 i2, .int .i64 t2, .int .i64 d2, .int .i64 k2, .int .i64 s2, .int .i64 c2, .string D2, .bool p2, .bool f2, .int .i64 m2, .int .i64 st, .int .i64 lf, .int .i64 er, .int .i64 ea, .string P, .int .i64 cp]).toArray 26)) := ((Below.refl _ _).alloc (Nat.le_refl _) _).alloc (by simp) _
  have HA7 := Lib.hid hA7
  have HA8 := Lib.hid hA8
  have HB := Lib.hid hB
  have hcall := fun W0 => part_any i2 t2 d2 k2 s2 c2 D2 p2 f2 m2 st lf er ea P cp off cnt x dd W0 hP hd
  have hcall2 := fun W0 => rpart_any i2 t2 d2 k2 s2 c2 D2 p2 f2 m2 st lf er ea P cp off cnt x dd W0 hP hd
  generalize (partS k2 c2 lf er ea P off cnt x dd).1 = q1 at hcall hcall2
  generalize (partS k2 c2 lf er ea P off cnt x dd).2.1 = q2 at hcall hcall2
  generalize (partS k2 c2 lf er ea P off cnt x dd).2.2.1 = q3 at hcall hcall2
  generalize (partS k2 c2 lf er ea P off cnt x dd).2.2.2 = q4 at hcall hcall2
  have HC1 := Lib.hid hcall
  have HC2 := Lib.hid hcall2
  obtain ⟨G, hG⟩ : ∃ G, ansS k2 er P = G := ⟨_, rfl⟩
  have HG := Lib.hid hG
  clear hA7 hA8 hB hcall hcall2 hG
  go_enter Try.func3, Try.ntmps3
  go_upto_region 3 with (fail)
  all_goals try (go_ret; exact RetW.mk rfl HB.out)
  all_goals
    refine region_calm2 (fun F => F.tmps[2]? = some (.int .i64 off) ∧ F.tmps[3]? = some (.int .i64 cnt) ∧ F.tmps[4]? = some (.int .i64 x) ∧ F.tmps[5]? = some (.int .i64 now) ∧ F.tmps[6]? = some (.string dd) ∧ F.tmps[7]? = some (.pointer (some ⟨w.heap.size, 0, none⟩)) ∧ F.tmps[8]? = some (.pointer (some ⟨w.heap.size + 1, 0, none⟩)) ∧ F.tmps[37]? = some (.agg #[.int .i64 i, .int .i64 t, .int .i64 d, .int .i64 k, .int .i64 s, .int .i64 c, .string D, .bool p, .bool f, .int .i64 m]) ∧ F.tmps[38]? = some (.agg (BV i t d k s c D p f m).toArray) ∧ F.tmps[39]? = some (.agg #[.int .i64 i, .int .i64 t, .int .i64 d, .int .i64 k, .int .i64 s, .int .i64 c, .string D, .bool p, .bool f, .int .i64 m]) ∧ F.tmps[40]? = some (.agg (BV i t d k s c D p f m).toArray) ∧ F.tmps[41]? = some (.bool true) ∧ F.tmps[42]? = some (.bool true) ∧ F.tmps[43]? = some (.agg #[.int .i64 i2, .int .i64 t2, .int .i64 d2, .int .i64 k2, .int .i64 s2, .int .i64 c2, .string D2, .bool p2, .bool f2, .int .i64 m2, .int .i64 st, .int .i64 lf, .int .i64 er, .int .i64 ea, .string P, .int .i64 cp]) ∧ F.tmps[44]? = some (.int .i64 off) ∧ F.tmps[45]? = some (.int .i64 cnt) ∧ F.tmps[46]? = some (.int .i64 x) ∧ F.tmps[47]? = some (.string dd) ∧ F.tmps[48]? = some (.agg #[.int .i64 i2, .int .i64 t2, .int .i64 d2, .int .i64 k2, .int .i64 s2, .int .i64 c2, .string D2, .bool p2, .bool f2, .int .i64 m2, .int .i64 st, .int .i64 q1, .int .i64 q2, .int .i64 q3, .string q4, .int .i64 cp]) ∧ F.tmps[49]? = some (.agg #[.int .i64 i2, .int .i64 t2, .int .i64 d2, .int .i64 k2, .int .i64 s2, .int .i64 c2, .string D2, .bool p2, .bool f2, .int .i64 m2, .int .i64 st, .int .i64 lf, .int .i64 er, .int .i64 ea, .string P, .int .i64 cp]) ∧ F.tmps[50]? = some (.int .i64 off) ∧ F.tmps[51]? = some (.int .i64 cnt) ∧ F.tmps[52]? = some (.int .i64 x) ∧ F.tmps[53]? = some (.string dd) ∧ F.tmps[54]? = some (.agg #[.int .i64 i2, .int .i64 t2, .int .i64 d2, .int .i64 k2, .int .i64 s2, .int .i64 c2, .string D2, .bool p2, .bool f2, .int .i64 m2, .int .i64 st, .int .i64 q1, .int .i64 q2, .int .i64 q3, .string q4, .int .i64 cp]) ∧ F.tmps[55]? = some (.bool true) ∧ F.tmps[56]? = some (.bool true) ∧ F.tmps[57]? = some (.bool true) ∧ F.tmps[58]? = some (.agg #[.int .i64 i2, .int .i64 t2, .int .i64 d2, .int .i64 k2, .int .i64 s2, .int .i64 c2, .string D2, .bool p2, .bool f2, .int .i64 m2, .int .i64 st, .int .i64 lf, .int .i64 er, .int .i64 ea, .string P, .int .i64 cp]) ∧ F.tmps[59]? = some (.int .i64 now) ∧ F.tmps[60]? = some (.agg #[.int .i64 i2, .int .i64 er, .string G, .int .i64 now]) ∧ F.tmps[61]? = some (.agg #[.int .i64 i2, .int .i64 t2, .int .i64 d2, .int .i64 k2, .int .i64 s2, .int .i64 c2, .string D2, .bool p2, .bool f2, .int .i64 m2, .int .i64 st, .int .i64 lf, .int .i64 er, .int .i64 ea, .string P, .int .i64 cp]) ∧ F.tmps[62]? = some (.int .i64 now) ∧ F.tmps[63]? = some (.agg #[.int .i64 i2, .int .i64 er, .string G, .int .i64 now]) ∧ F.tmps[64]? = some (.bool true) ∧ F.tmps[65]? = some (.bool true) ∧ F.tmps[66]? = some (.bool true) ∧ F.tmps[67]? = some (.bool true) ∧ F.tmps[68]? = some (.bool true) ∧ F.tmps[14]? = some (.bool true)) (fun wq => At wq w.heap.size [.int .i64 i, .int .i64 t, .int .i64 d, .int .i64 k, .int .i64 s, .int .i64 c, .string D, .bool p, .bool f, .int .i64 m] ∧ At wq (w.heap.size + 1) [.int .i64 i2, .int .i64 t2, .int .i64 d2, .int .i64 k2, .int .i64 s2, .int .i64 c2, .string D2, .bool p2, .bool f2, .int .i64 m2, .int .i64 st, .int .i64 lf, .int .i64 er, .int .i64 ea, .string P, .int .i64 cp] ∧ Below w.heap.size w wq) [.agg #[.int .i64 i, .int .i64 t, .int .i64 d, .int .i64 k, .int .i64 s, .int .i64 c, .string D, .bool p, .bool f, .int .i64 m], .agg (BV i t d k s c D p f m).toArray, .agg #[.int .i64 i, .int .i64 t, .int .i64 d, .int .i64 k, .int .i64 s, .int .i64 c, .string D, .bool p, .bool f, .int .i64 m], .agg (BV i t d k s c D p f m).toArray, .bool true, .bool true, .agg #[.int .i64 i2, .int .i64 t2, .int .i64 d2, .int .i64 k2, .int .i64 s2, .int .i64 c2, .string D2, .bool p2, .bool f2, .int .i64 m2, .int .i64 st, .int .i64 lf, .int .i64 er, .int .i64 ea, .string P, .int .i64 cp], .int .i64 off, .int .i64 cnt, .int .i64 x, .string dd, .agg #[.int .i64 i2, .int .i64 t2, .int .i64 d2, .int .i64 k2, .int .i64 s2, .int .i64 c2, .string D2, .bool p2, .bool f2, .int .i64 m2, .int .i64 st, .int .i64 q1, .int .i64 q2, .int .i64 q3, .string q4, .int .i64 cp], .agg #[.int .i64 i2, .int .i64 t2, .int .i64 d2, .int .i64 k2, .int .i64 s2, .int .i64 c2, .string D2, .bool p2, .bool f2, .int .i64 m2, .int .i64 st, .int .i64 lf, .int .i64 er, .int .i64 ea, .string P, .int .i64 cp], .int .i64 off, .int .i64 cnt, .int .i64 x, .string dd, .agg #[.int .i64 i2, .int .i64 t2, .int .i64 d2, .int .i64 k2, .int .i64 s2, .int .i64 c2, .string D2, .bool p2, .bool f2, .int .i64 m2, .int .i64 st, .int .i64 q1, .int .i64 q2, .int .i64 q3, .string q4, .int .i64 cp], .bool true, .bool true, .bool true, .agg #[.int .i64 i2, .int .i64 t2, .int .i64 d2, .int .i64 k2, .int .i64 s2, .int .i64 c2, .string D2, .bool p2, .bool f2, .int .i64 m2, .int .i64 st, .int .i64 lf, .int .i64 er, .int .i64 ea, .string P, .int .i64 cp], .int .i64 now, .agg #[.int .i64 i2, .int .i64 er, .string G, .int .i64 now], .agg #[.int .i64 i2, .int .i64 t2, .int .i64 d2, .int .i64 k2, .int .i64 s2, .int .i64 c2, .string D2, .bool p2, .bool f2, .int .i64 m2, .int .i64 st, .int .i64 lf, .int .i64 er, .int .i64 ea, .string P, .int .i64 cp], .int .i64 now, .agg #[.int .i64 i2, .int .i64 er, .string G, .int .i64 now], .bool true, .bool true, .bool true, .bool true, .bool true, .bool true] (by kernel_rfl) (by kernel_rfl) ?_ ⟨HA7.out.drew, HA8.out.drew, HB.out.drew⟩ ?_ ?_
    · simp only [putAll, Act.put, List.setIfInBounds_toArray, List.set_cons_zero, List.set_cons_succ]
      exact ⟨rfl, rfl, rfl, rfl, rfl, rfl, rfl, rfl, rfl, rfl, rfl, rfl, rfl, rfl, rfl, rfl, rfl, rfl, rfl, rfl, rfl, rfl, rfl, rfl, rfl, rfl, rfl, rfl, rfl, rfl, rfl, rfl, rfl, rfl, rfl, rfl, rfl, rfl, rfl, rfl⟩
    · rintro F ⟨f2, f3, f4, f5, f6, f7, f8, f37, f38, f39, f40, f41, f42, f43, f44, f45, f46, f47, f48, f49, f50, f51, f52, f53, f54, f55, f56, f57, f58, f59, f60, f61, f62, f63, f64, f65, f66, f67, f68, f14⟩
      refine steps_cons ?_ (steps_cons ?_ (steps_cons ?_ (steps_cons ?_ (steps_cons ?_ (steps_cons ?_ (steps_cons ?_ (steps_cons ?_ (steps_cons ?_ (steps_cons ?_ (steps_cons ?_ (steps_cons ?_ (steps_cons ?_ (steps_cons ?_ (steps_cons ?_ (steps_cons ?_ (steps_cons ?_ (steps_cons ?_ (steps_cons ?_ (steps_cons ?_ (steps_cons ?_ (steps_cons ?_ (steps_cons ?_ (steps_cons ?_ (steps_cons ?_ (steps_cons ?_ (steps_cons ?_ (steps_cons ?_ (steps_cons ?_ (steps_cons ?_ (steps_cons ?_ (steps_cons ?_ (steps_cons ?_ (steps_nil)))))))))))))))))))))))))))))))))
      · refine step_of (wanted_none rfl) (fun wq hT K hK => ?_)
        obtain ⟨g7, g8, gB⟩ := hT
        have HK := Lib.hid (hK wq ⟨g7, g8, gB⟩)
        exact wp_load_mid 23 (.tmp 7) rfl (w.heap.size) 0 (by simp [Act.eval, f7]) _ _ g7.r Try.underlying23 rfl size23 (kput (d := 37) f37 HK.out)
      · refine step_of (wanted_none rfl) (fun wq hT K hK => ?_)
        obtain ⟨g7, g8, gB⟩ := hT
        have HK := Lib.hid (hK wq ⟨g7, g8, gB⟩)
        have HKK := Lib.hid hK
        have G7 := Lib.hid g7
        have G8 := Lib.hid g8
        clear hK g7 g8 HK
        go_simp
        refine (begin_any _ _ _ _ _ _ _ _ _ _ _).mono ?_
        rintro e w' ⟨rfl, hb⟩
        exact kput (d := 38) f38 (HKK.out w' ⟨G7.out.below hb G7.out.hi, G8.out.below hb G8.out.hi, gB.trans (hb.mono gB.size)⟩)
      · refine step_of (wanted_none rfl) (fun wq hT K hK => ?_)
        obtain ⟨g7, g8, gB⟩ := hT
        have HK := Lib.hid (hK wq ⟨g7, g8, gB⟩)
        exact wp_load_mid 23 (.tmp 7) rfl (w.heap.size) 0 (by simp [Act.eval, f7]) _ _ g7.r Try.underlying23 rfl size23 (kput (d := 39) f39 HK.out)
      · refine step_of (wanted_none rfl) (fun wq hT K hK => ?_)
        obtain ⟨g7, g8, gB⟩ := hT
        have HK := Lib.hid (hK wq ⟨g7, g8, gB⟩)
        have HKK := Lib.hid hK
        have G7 := Lib.hid g7
        have G8 := Lib.hid g8
        clear hK g7 g8 HK
        go_simp
        refine (rbegin_any _ _ _ _ _ _ _ _ _ _ _).mono ?_
        rintro e w' ⟨rfl, hb⟩
        exact kput (d := 40) f40 (HKK.out w' ⟨G7.out.below hb G7.out.hi, G8.out.below hb G8.out.hi, gB.trans (hb.mono gB.size)⟩)
      · refine step_of (wanted_none rfl) (fun wq hT K hK => ?_)
        obtain ⟨g7, g8, gB⟩ := hT
        have HK := Lib.hid (hK wq ⟨g7, g8, gB⟩)
        clear hK g7 g8 gB
        have f38' := f38
        have f40' := f40
        clear f38 f40
        unfold BV at f38' f40'
        cases hfc : fitB c with
        | false =>
          rw [hfc, if_neg (by simp)] at f38' f40'
          simp only [ZV] at f38' f40'
          go_simp
          exact kput (d := 41) f41 HK.out
        | true =>
          rw [hfc, if_pos rfl] at f38' f40'
          go_simp
          exact kput (d := 41) f41 HK.out
      · refine step_of (wanted_none rfl) (fun wq hT K hK => ?_)
        obtain ⟨g7, g8, gB⟩ := hT
        have HK := Lib.hid (hK wq ⟨g7, g8, gB⟩)
        clear hK g7 g8 gB
        go_simp
        exact kput (d := 42) f42 HK.out
      · refine step_of (wanted_some rfl (d := 42) rfl f42) (fun wq hT K hK => ?_)
        obtain ⟨g7, g8, gB⟩ := hT
        have HK := Lib.hid (hK wq ⟨g7, g8, gB⟩)
        exact wp_load_mid 26 (.tmp 8) rfl (w.heap.size + 1) 0 (by simp [Act.eval, f8]) _ _ g8.r Try.underlying26 rfl size26 (kput (d := 43) f43 HK.out)
      · refine step_of (wanted_some rfl (d := 42) rfl f42) (fun wq hT K hK => ?_)
        obtain ⟨g7, g8, gB⟩ := hT
        have HK := Lib.hid (hK wq ⟨g7, g8, gB⟩)
        clear hK g7 g8 gB
        go_simp
        exact kput (d := 44) f44 HK.out
      · refine step_of (wanted_some rfl (d := 42) rfl f42) (fun wq hT K hK => ?_)
        obtain ⟨g7, g8, gB⟩ := hT
        have HK := Lib.hid (hK wq ⟨g7, g8, gB⟩)
        clear hK g7 g8 gB
        go_simp
        exact kput (d := 45) f45 HK.out
      · refine step_of (wanted_some rfl (d := 42) rfl f42) (fun wq hT K hK => ?_)
        obtain ⟨g7, g8, gB⟩ := hT
        have HK := Lib.hid (hK wq ⟨g7, g8, gB⟩)
        clear hK g7 g8 gB
        go_simp
        exact kput (d := 46) f46 HK.out
      · refine step_of (wanted_some rfl (d := 42) rfl f42) (fun wq hT K hK => ?_)
        obtain ⟨g7, g8, gB⟩ := hT
        have HK := Lib.hid (hK wq ⟨g7, g8, gB⟩)
        clear hK g7 g8 gB
        go_simp
        exact kput (d := 47) f47 HK.out
      · refine step_of (wanted_some rfl (d := 42) rfl f42) (fun wq hT K hK => ?_)
        obtain ⟨g7, g8, gB⟩ := hT
        have HK := Lib.hid (hK wq ⟨g7, g8, gB⟩)
        have HKK := Lib.hid hK
        have G7 := Lib.hid g7
        have G8 := Lib.hid g8
        clear hK g7 g8 HK
        go_simp
        refine (HC1.out _).mono ?_
        rintro e w' ⟨rfl, hb⟩
        exact kput (d := 48) f48 (HKK.out w' ⟨G7.out.below hb G7.out.hi, G8.out.below hb G8.out.hi, gB.trans (hb.mono gB.size)⟩)
      · refine step_of (wanted_some rfl (d := 42) rfl f42) (fun wq hT K hK => ?_)
        obtain ⟨g7, g8, gB⟩ := hT
        have HK := Lib.hid (hK wq ⟨g7, g8, gB⟩)
        exact wp_load_mid 26 (.tmp 8) rfl (w.heap.size + 1) 0 (by simp [Act.eval, f8]) _ _ g8.r Try.underlying26 rfl size26 (kput (d := 49) f49 HK.out)
      · refine step_of (wanted_some rfl (d := 42) rfl f42) (fun wq hT K hK => ?_)
        obtain ⟨g7, g8, gB⟩ := hT
        have HK := Lib.hid (hK wq ⟨g7, g8, gB⟩)
        clear hK g7 g8 gB
        go_simp
        exact kput (d := 50) f50 HK.out
      · refine step_of (wanted_some rfl (d := 42) rfl f42) (fun wq hT K hK => ?_)
        obtain ⟨g7, g8, gB⟩ := hT
        have HK := Lib.hid (hK wq ⟨g7, g8, gB⟩)
        clear hK g7 g8 gB
        go_simp
        exact kput (d := 51) f51 HK.out
      · refine step_of (wanted_some rfl (d := 42) rfl f42) (fun wq hT K hK => ?_)
        obtain ⟨g7, g8, gB⟩ := hT
        have HK := Lib.hid (hK wq ⟨g7, g8, gB⟩)
        clear hK g7 g8 gB
        go_simp
        exact kput (d := 52) f52 HK.out
      · refine step_of (wanted_some rfl (d := 42) rfl f42) (fun wq hT K hK => ?_)
        obtain ⟨g7, g8, gB⟩ := hT
        have HK := Lib.hid (hK wq ⟨g7, g8, gB⟩)
        clear hK g7 g8 gB
        go_simp
        exact kput (d := 53) f53 HK.out
      · refine step_of (wanted_some rfl (d := 42) rfl f42) (fun wq hT K hK => ?_)
        obtain ⟨g7, g8, gB⟩ := hT
        have HK := Lib.hid (hK wq ⟨g7, g8, gB⟩)
        have HKK := Lib.hid hK
        have G7 := Lib.hid g7
        have G8 := Lib.hid g8
        clear hK g7 g8 HK
        go_simp
        refine (HC2.out _).mono ?_
        rintro e w' ⟨rfl, hb⟩
        exact kput (d := 54) f54 (HKK.out w' ⟨G7.out.below hb G7.out.hi, G8.out.below hb G8.out.hi, gB.trans (hb.mono gB.size)⟩)
      · refine step_of (wanted_some rfl (d := 42) rfl f42) (fun wq hT K hK => ?_)
        obtain ⟨g7, g8, gB⟩ := hT
        have HK := Lib.hid (hK wq ⟨g7, g8, gB⟩)
        clear hK g7 g8 gB
        go_simp
        exact kput (d := 55) f55 HK.out
      · refine step_of (wanted_none rfl) (fun wq hT K hK => ?_)
        obtain ⟨g7, g8, gB⟩ := hT
        have HK := Lib.hid (hK wq ⟨g7, g8, gB⟩)
        clear hK g7 g8 gB
        go_simp
        exact kput (d := 56) f56 HK.out
      · refine step_of (wanted_none rfl) (fun wq hT K hK => ?_)
        obtain ⟨g7, g8, gB⟩ := hT
        have HK := Lib.hid (hK wq ⟨g7, g8, gB⟩)
        clear hK g7 g8 gB
        go_simp
        exact kput (d := 57) f57 HK.out
      · refine step_of (wanted_some rfl (d := 57) rfl f57) (fun wq hT K hK => ?_)
        obtain ⟨g7, g8, gB⟩ := hT
        have HK := Lib.hid (hK wq ⟨g7, g8, gB⟩)
        exact wp_load_mid 26 (.tmp 8) rfl (w.heap.size + 1) 0 (by simp [Act.eval, f8]) _ _ g8.r Try.underlying26 rfl size26 (kput (d := 58) f58 HK.out)
      · refine step_of (wanted_some rfl (d := 57) rfl f57) (fun wq hT K hK => ?_)
        obtain ⟨g7, g8, gB⟩ := hT
        have HK := Lib.hid (hK wq ⟨g7, g8, gB⟩)
        clear hK g7 g8 gB
        go_simp
        exact kput (d := 59) f59 HK.out
      · refine step_of (wanted_some rfl (d := 57) rfl f57) (fun wq hT K hK => ?_)
        obtain ⟨g7, g8, gB⟩ := hT
        have HK := Lib.hid (hK wq ⟨g7, g8, gB⟩)
        have HKK := Lib.hid hK
        have G7 := Lib.hid g7
        have G8 := Lib.hid g8
        clear hK g7 g8 HK
        go_simp
        refine (answer_any _ _ _ _ _ _ _ _ _ _ _ _ _ _ _ _ _ _).mono ?_
        rw [HG.out]
        rintro e w' ⟨rfl, hb⟩
        exact kput (d := 60) f60 (HKK.out w' ⟨G7.out.below hb G7.out.hi, G8.out.below hb G8.out.hi, gB.trans (hb.mono gB.size)⟩)
      · refine step_of (wanted_some rfl (d := 57) rfl f57) (fun wq hT K hK => ?_)
        obtain ⟨g7, g8, gB⟩ := hT
        have HK := Lib.hid (hK wq ⟨g7, g8, gB⟩)
        exact wp_load_mid 26 (.tmp 8) rfl (w.heap.size + 1) 0 (by simp [Act.eval, f8]) _ _ g8.r Try.underlying26 rfl size26 (kput (d := 61) f61 HK.out)
      · refine step_of (wanted_some rfl (d := 57) rfl f57) (fun wq hT K hK => ?_)
        obtain ⟨g7, g8, gB⟩ := hT
        have HK := Lib.hid (hK wq ⟨g7, g8, gB⟩)
        clear hK g7 g8 gB
        go_simp
        exact kput (d := 62) f62 HK.out
      · refine step_of (wanted_some rfl (d := 57) rfl f57) (fun wq hT K hK => ?_)
        obtain ⟨g7, g8, gB⟩ := hT
        have HK := Lib.hid (hK wq ⟨g7, g8, gB⟩)
        have HKK := Lib.hid hK
        have G7 := Lib.hid g7
        have G8 := Lib.hid g8
        clear hK g7 g8 HK
        go_simp
        refine (ranswer_any _ _ _ _ _ _ _ _ _ _ _ _ _ _ _ _ _ _).mono ?_
        rw [HG.out]
        rintro e w' ⟨rfl, hb⟩
        exact kput (d := 63) f63 (HKK.out w' ⟨G7.out.below hb G7.out.hi, G8.out.below hb G8.out.hi, gB.trans (hb.mono gB.size)⟩)
      · refine step_of (wanted_some rfl (d := 57) rfl f57) (fun wq hT K hK => ?_)
        obtain ⟨g7, g8, gB⟩ := hT
        have HK := Lib.hid (hK wq ⟨g7, g8, gB⟩)
        clear hK g7 g8 gB
        go_simp
        exact kput (d := 64) f64 HK.out
      · refine step_of (wanted_none rfl) (fun wq hT K hK => ?_)
        obtain ⟨g7, g8, gB⟩ := hT
        have HK := Lib.hid (hK wq ⟨g7, g8, gB⟩)
        clear hK g7 g8 gB
        go_simp
        exact kput (d := 65) f65 HK.out
      · refine step_of (wanted_none rfl) (fun wq hT K hK => ?_)
        obtain ⟨g7, g8, gB⟩ := hT
        have HK := Lib.hid (hK wq ⟨g7, g8, gB⟩)
        clear hK g7 g8 gB
        go_simp
        exact kput (d := 66) f66 HK.out
      · refine step_of (wanted_some rfl (d := 66) rfl f66) (fun wq hT K hK => ?_)
        obtain ⟨g7, g8, gB⟩ := hT
        have HK := Lib.hid (hK wq ⟨g7, g8, gB⟩)
        have HKK := Lib.hid hK
        have G7 := Lib.hid g7
        have G8 := Lib.hid g8
        clear hK g7 g8 HK
        go_simp
        refine (awake_any _).mono ?_
        rintro e w' ⟨rfl, hb⟩
        exact kput (d := 67) f67 (HKK.out w' ⟨G7.out.below hb G7.out.hi, G8.out.below hb G8.out.hi, gB.trans (hb.mono gB.size)⟩)
      · refine step_of (wanted_none rfl) (fun wq hT K hK => ?_)
        obtain ⟨g7, g8, gB⟩ := hT
        have HK := Lib.hid (hK wq ⟨g7, g8, gB⟩)
        clear hK g7 g8 gB
        go_simp
        exact kput (d := 68) f68 HK.out
      · refine step_of (wanted_none rfl) (fun wq hT K hK => ?_)
        obtain ⟨g7, g8, gB⟩ := hT
        have HK := Lib.hid (hK wq ⟨g7, g8, gB⟩)
        clear hK g7 g8 gB
        go_simp
        exact kput (d := 14) f14 HK.out
    · rintro wq ⟨g7, g8, gB⟩
      simp only [putAll, Act.put, List.setIfInBounds_toArray, List.set_cons_zero, List.set_cons_succ]
      go_wp2_with fail
      go_ret
      exact RetW.mk rfl gB
end Go.Proofs.Ytppkbifhhpakgaa
