/- Answer and the reference's Answer. -/
import Derived.Test.YtppkbifhhpakgaaPartDefs
namespace Go.Proofs.Ytppkbifhhpakgaa
open Go.ChangeShapes Go.WideShapes Go.ChangeAt Go.RowKit

def ansS (k er : Int) (P : ByteArray) : ByteArray := if k = 1 ∧ er = 0 then P else ⟨#[]⟩

set_option maxRecDepth 100000 in
set_option maxHeartbeats 2000000 in
theorem answer_any (i t d k s c : Int) (D : ByteArray) (p f : Bool) (m : Int) (st lf er ea : Int) (P : ByteArray) (cp : Int) (now : Int) (w : World) :
    Calls Try.prog 11 #[.agg #[.int .i64 i, .int .i64 t, .int .i64 d, .int .i64 k, .int .i64 s, .int .i64 c, .string D, .bool p, .bool f, .int .i64 m, .int .i64 st, .int .i64 lf, .int .i64 er, .int .i64 ea, .string P, .int .i64 cp], .int .i64 now] w (RetW (.agg #[.int .i64 i, .int .i64 er, .string (ansS k er P), .int .i64 now]) w) := by
  cases h1 : (k == 1) with
  | false =>
    have hs : ansS k er P = ⟨#[]⟩ := by unfold ansS; rw [if_neg (by simp at h1; omega)]
    rw [hs]
    go_enter Try.func11, Try.ntmps11
    go_wp2_with fail
    refine bodyPost_ret (v := .agg #[.int .i64 i, .int .i64 er, .string ⟨#[]⟩, .int .i64 now]) (by simp [results, Try.results11, go_sem]) rfl (RetW.mk rfl ?_)
    repeat (first | exact Below.refl _ _ | (refine Below.drew ?_) | (refine below_drewN ?_ _) | (refine Below.setCell ?_ (by first | (simp; done) | omega) _) | (refine Below.alloc ?_ (by first | (simp; done) | (simp; omega) | omega) _) | refine Below.trans ?_ (Below.mono (by assumption) (by first | omega | (simp; done) | (simp; omega))))
  | true =>
    cases h2 : (er == 0) with
    | false =>
      have hs : ansS k er P = ⟨#[]⟩ := by unfold ansS; rw [if_neg (by simp at h2; omega)]
      rw [hs]
      go_enter Try.func11, Try.ntmps11
      go_wp2_with fail
      refine bodyPost_ret (v := .agg #[.int .i64 i, .int .i64 er, .string ⟨#[]⟩, .int .i64 now]) (by simp [results, Try.results11, go_sem]) rfl (RetW.mk rfl ?_)
      repeat (first | exact Below.refl _ _ | (refine Below.drew ?_) | (refine below_drewN ?_ _) | (refine Below.setCell ?_ (by first | (simp; done) | omega) _) | (refine Below.alloc ?_ (by first | (simp; done) | (simp; omega) | omega) _) | refine Below.trans ?_ (Below.mono (by assumption) (by first | omega | (simp; done) | (simp; omega))))
    | true =>
      have hs : ansS k er P = P := by unfold ansS; rw [if_pos (by simp at h1 h2; omega)]
      rw [hs]
      go_enter Try.func11, Try.ntmps11
      go_wp2_with fail
      refine bodyPost_ret (v := .agg #[.int .i64 i, .int .i64 er, .string P, .int .i64 now]) (by simp [results, Try.results11, go_sem]) rfl (RetW.mk rfl ?_)
      repeat (first | exact Below.refl _ _ | (refine Below.drew ?_) | (refine below_drewN ?_ _) | (refine Below.setCell ?_ (by first | (simp; done) | omega) _) | (refine Below.alloc ?_ (by first | (simp; done) | (simp; omega) | omega) _) | refine Below.trans ?_ (Below.mono (by assumption) (by first | omega | (simp; done) | (simp; omega))))

set_option maxRecDepth 100000 in
set_option maxHeartbeats 2000000 in
theorem ranswer_any (i t d k s c : Int) (D : ByteArray) (p f : Bool) (m : Int) (st lf er ea : Int) (P : ByteArray) (cp : Int) (now : Int) (w : World) :
    Calls Try.prog 12 #[.agg #[.int .i64 i, .int .i64 t, .int .i64 d, .int .i64 k, .int .i64 s, .int .i64 c, .string D, .bool p, .bool f, .int .i64 m, .int .i64 st, .int .i64 lf, .int .i64 er, .int .i64 ea, .string P, .int .i64 cp], .int .i64 now] w (RetW (.agg #[.int .i64 i, .int .i64 er, .string (ansS k er P), .int .i64 now]) w) := by
  cases h1 : (k == 1) with
  | false =>
    have hs : ansS k er P = ⟨#[]⟩ := by unfold ansS; rw [if_neg (by simp at h1; omega)]
    rw [hs]
    go_enter Try.func12, Try.ntmps12
    go_wp2_with fail
    refine bodyPost_ret (v := .agg #[.int .i64 i, .int .i64 er, .string ⟨#[]⟩, .int .i64 now]) (by simp [results, Try.results12, go_sem]) rfl (RetW.mk rfl ?_)
    repeat (first | exact Below.refl _ _ | (refine Below.drew ?_) | (refine below_drewN ?_ _) | (refine Below.setCell ?_ (by first | (simp; done) | omega) _) | (refine Below.alloc ?_ (by first | (simp; done) | (simp; omega) | omega) _) | refine Below.trans ?_ (Below.mono (by assumption) (by first | omega | (simp; done) | (simp; omega))))
  | true =>
    cases h2 : (er == 0) with
    | false =>
      have hs : ansS k er P = ⟨#[]⟩ := by unfold ansS; rw [if_neg (by simp at h2; omega)]
      rw [hs]
      go_enter Try.func12, Try.ntmps12
      go_wp2_with fail
      refine bodyPost_ret (v := .agg #[.int .i64 i, .int .i64 er, .string ⟨#[]⟩, .int .i64 now]) (by simp [results, Try.results12, go_sem]) rfl (RetW.mk rfl ?_)
      repeat (first | exact Below.refl _ _ | (refine Below.drew ?_) | (refine below_drewN ?_ _) | (refine Below.setCell ?_ (by first | (simp; done) | omega) _) | (refine Below.alloc ?_ (by first | (simp; done) | (simp; omega) | omega) _) | refine Below.trans ?_ (Below.mono (by assumption) (by first | omega | (simp; done) | (simp; omega))))
    | true =>
      have hs : ansS k er P = P := by unfold ansS; rw [if_pos (by simp at h1 h2; omega)]
      rw [hs]
      go_enter Try.func12, Try.ntmps12
      go_wp2_with fail
      refine bodyPost_ret (v := .agg #[.int .i64 i, .int .i64 er, .string P, .int .i64 now]) (by simp [results, Try.results12, go_sem]) rfl (RetW.mk rfl ?_)
      repeat (first | exact Below.refl _ _ | (refine Below.drew ?_) | (refine below_drewN ?_ _) | (refine Below.setCell ?_ (by first | (simp; done) | omega) _) | (refine Below.alloc ?_ (by first | (simp; done) | (simp; omega) | omega) _) | refine Below.trans ?_ (Below.mono (by assumption) (by first | omega | (simp; done) | (simp; omega))))
end Go.Proofs.Ytppkbifhhpakgaa
