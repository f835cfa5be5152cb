/- What the walks of the laws share: the tape's beginning, pages in blocks. -/
import Derived.Test.YthimcidkmnobnaaAwk
import Derived.Test.YthimcidkmnobnaaMkp
namespace Go.Proofs.Ythimcidkmnobnaa
open Go.ChangeShapes Go.WideShapes Go.ChangeAt Go.RowKit

theorem Has.tock {w w' : World} {b t : Nat} {p : Pg} (h : Has w b p) (hb : b ≠ t) (ht : Tock t w w') : Has w' b p :=
  ⟨Nat.lt_of_lt_of_le h.lt ht.size, (ht.cell hb h.lt).trans h.c0, (ht.cell hb h.lt).trans h.c1, (ht.cell hb h.lt).trans h.c2⟩
theorem tape_start (w : World) (a : Option Addr) (len cap : Nat) (ha : ArgRow w a len) (hl : len ≤ maxLen) : TP w w.heap.size a len cap (w.alloc (.cells #[.slice a len cap, .int .i64 0] 25)) :=
  ⟨0, ha, Nat.le_refl _, by simp, (Below.refl _ _).alloc (Nat.le_refl _) _, by simp, by simp, by simp, Nat.zero_le _, hl⟩
theorem pg_mk (p : Pg) : p = ⟨p.d, p.v, p.e⟩ := rfl
end Go.Proofs.Ythimcidkmnobnaa
