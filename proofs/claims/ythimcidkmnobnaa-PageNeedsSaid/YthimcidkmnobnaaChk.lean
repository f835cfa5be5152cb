/- Whether a page is right: the program's answer and the document's. -/
import Derived.Test.YthimcidkmnobnaaBase
namespace Go.Proofs.Ythimcidkmnobnaa
open Go.ChangeShapes Go.WideShapes Go.ChangeAt Go.RowKit

set_option maxHeartbeats 1000000 in
theorem check_any (p : Pg) (w : World) (hd : p.d.size ≤ maxLen) : Calls Try.prog 16 #[p.val] w (RetW (.bool (chk p)) w) := by
  obtain ⟨d, v, e⟩ := p
  unfold Pg.val chk
  simp only at hd ⊢
  unfold maxLen at hd
  go_enter Try.func16, Try.ntmps16
  go_wp2_with (go_at_call 39; refine (set_any _ _).mono ?_; rintro e w' ⟨rfl, rfl⟩)
  all_goals
    go_ret
    refine RetW.mk ?_ ((Below.refl _ _).alloc (Nat.le_refl _) _)
    first | (have h : d.size = 16 := by omega) | (have h : ¬ d.size = 16 := by omega)
    simp [*]

set_option maxHeartbeats 1000000 in
theorem checkR_any (p : Pg) (w : World) (hd : p.d.size ≤ maxLen) : Calls Try.prog 17 #[p.val] w (RetW (.bool (chk p)) w) := by
  obtain ⟨d, v, e⟩ := p
  unfold Pg.val chk
  simp only at hd ⊢
  unfold maxLen at hd
  go_enter Try.func17, Try.ntmps17
  go_wp2_with fail
  all_goals
    go_ret
    refine RetW.mk ?_ ((Below.refl _ _).alloc (Nat.le_refl _) _)
    simp [isSet, *]
    try omega
end Go.Proofs.Ythimcidkmnobnaa
