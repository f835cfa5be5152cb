/- Comparing two lists of entries that are alike. -/
import Derived.Test.YtodonnagmgbliaaCh
namespace Go.Proofs.Ytodonnagmgbliaa
open Go.ChangeShapes Go.WideShapes Go.ChangeAt Go.RowKit
set_option maxHeartbeats 4000000 in
theorem same_any (B B2 : Nat) (a b : Option Addr) (l : List Ar) (c c2 : Nat) (w : World) (h : ARow B a c l w) (h2 : ARow B2 b c2 l w) (hl : l.length ≤ 100) :
    Calls Try.prog 18 #[.slice a l.length c, .slice b l.length c2] w (RetW (.bool true) w) := by
  have HA : Hid (∀ W, Below w.heap.size w W → ∀ j, j < l.length → ∃ g g2, a = some ⟨g, 0, none⟩ ∧ (l.length : Int) ≤ c ∧ b = some ⟨g2, 0, none⟩ ∧ (l.length : Int) ≤ c2 ∧ Cel W g (j * 5) (l.getD j Ar.zero) ∧ Cel W g2 (j * 5) (l.getD j Ar.zero)) := by
    intro W hb j hj
    obtain ⟨g, h1, _, _, h4, _, h6⟩ := (h.below hb).at (by omega)
    obtain ⟨g2, k1, _, _, k4, _, k6⟩ := (h2.below hb).at (by omega)
    exact ⟨g, g2, h1, by omega, k1, by omega, h6 j hj, k6 j hj⟩
  clear h h2
  go_enter Try.func18, Try.ntmps18
  go_wp2_with fail
  go_loopw [5] (fun v5 wr => ∃ k : Nat, k ≤ l.length ∧ v5 = .int .i64 k ∧ Hid (Below w.heap.size w wr)) (fun v5 _ => 200 - (intOf v5).toNat)
  case atStart => exact ⟨0, Nat.zero_le _, rfl, Below.refl _ _⟩
  case round =>
    obtain ⟨k, hk, rfl, HB⟩ := hrel
    by_cases hlt : k < l.length
    · have hlt' : (k : Int) < (l.length : Int) := by omega
      obtain ⟨g, g2, rfl, hc, rfl, hc2, hcel, hcel2⟩ := HA.out _ HB.out k hlt
      clear HA
      generalize l.getD k Ar.zero = e at *
      obtain ⟨es, ec, ef, ep, eb⟩ := e
      obtain ⟨k0, k1, k2, k3, k4⟩ := hcel
      obtain ⟨m0, m1, m2, m3, m4⟩ := hcel2
      simp only at k0 k1 k2 k3 k4 m0 m1 m2 m3 m4
      go_wp2_with fail
      go_quiet (fail)
      go_wp2_with fail
      go_roundw
      case rel => exact ⟨k + 1, by omega, by go_num, below_drewN HB.out _⟩
      case measure => simp [intOf]; omega
    · obtain rfl : k = l.length := by omega
      go_wp2_with fail
      go_ret
      exact ⟨rfl, HB.out⟩
end Go.Proofs.Ytodonnagmgbliaa
