/- The world in the midst of a law: a list of areas and a tape. -/
import Derived.Test.YtpnoilpdlnlebaaPu
namespace Go.Proofs.Ytpnoilpdlnlebaa
open Go.ChangeShapes Go.WideShapes Go.ChangeAt Go.RowKit

theorem tape_at {w0 : World} (W : World) (a : Option Addr) (len cap : Nat) (ha : ArgRow w0 a len) (hl : len ≤ maxLen) (hb : Below w0.heap.size w0 W) : TP w0 W.heap.size a len cap (W.alloc (.cells #[.slice a len cap, .int .i64 0] 25)) :=
  ⟨0, ha, hb.size, by simp, hb.trans ((Below.refl _ _).alloc hb.size _), by simp, by simp, by simp, Nat.zero_le _, hl⟩
/-- what is known of the world in the midst of a law: the list l, the tape in block T -/
structure Mid (w0 wx : World) (T : Nat) (a : Option Addr) (len cap : Nat) (b : Option Addr) (c : Nat) (l : List Ar) (W : World) : Prop where
  bel : Below wx.heap.size wx W
  row : ARow 0 b c l W
  tp : TP w0 T a len cap W
  lo : wx.heap.size ≤ T
  ob : ∀ g, b = some ⟨g, 0, none⟩ → g ≠ T
theorem ARow.keep {B cap : Nat} {a : Option Addr} {l : List Ar} {w w' : World} (h : ARow B a cap l w) (hs : w.heap.size ≤ w'.heap.size) (hk : ∀ g, a = some ⟨g, 0, none⟩ → g < w.heap.size → w'.heap[g]? = w.heap[g]?) : ARow B a cap l w' := by
  rcases h with h | ⟨g, h1, h2, h3, h4, h5, h6⟩
  · exact Or.inl h
  · have hc : ∀ o, w'.cell? ⟨g, o, none⟩ = w.cell? ⟨g, o, none⟩ := fun o => World.cell?_of_block (w := w) (a := ⟨g, o, none⟩) (hk g h1 h3)
    exact Or.inr ⟨g, h1, h2, by omega, h4, h5, fun j hj => ⟨by rw [hc]; exact (h6 j hj).c0, by rw [hc]; exact (h6 j hj).c1, by rw [hc]; exact (h6 j hj).c2, by rw [hc]; exact (h6 j hj).c3, by rw [hc]; exact (h6 j hj).c4⟩⟩
theorem Mid.below {w0 wx : World} {T : Nat} {a : Option Addr} {len cap : Nat} {b : Option Addr} {c : Nat} {l : List Ar} {W W' : World} (h : Mid w0 wx T a len cap b c l W) (hb : Below W.heap.size W W') : Mid w0 wx T a len cap b c l W' :=
  ⟨h.bel.trans (hb.mono h.bel.size), h.row.below hb, h.tp.below hb h.tp.hi, h.lo, h.ob⟩
theorem Mid.tick {w0 wx : World} {T : Nat} {a : Option Addr} {len cap : Nat} {b : Option Addr} {c : Nat} {l : List Ar} {W W' : World} (h : Mid w0 wx T a len cap b c l W) (hk : Tick T W W') (tp : TP w0 T a len cap W') : Mid w0 wx T a len cap b c l W' :=
  ⟨h.bel.trans (hk.below h.lo), h.row.keep (Nat.le_of_eq hk.size.symm) (fun g hg _ => hk.block g (h.ob g hg)), tp, h.lo, h.ob⟩
theorem ARow.blk {B cap : Nat} {b : Option Addr} {l : List Ar} {w : World} (h : ARow B b cap l w) {g : Nat} (hg : b = some ⟨g, 0, none⟩) : B ≤ g ∧ g < w.heap.size := by
  rcases h with ⟨h, _⟩ | ⟨g', h1, h2, h3, _⟩
  · rw [h] at hg; cases hg
  · rw [h1] at hg; cases hg; exact ⟨h2, h3⟩
end Go.Proofs.Ytpnoilpdlnlebaa
