/- A result's block, wherever among the calls it is made. -/
import Derived.Test.YthimcidkmnobnaaCmm
import Derived.Test.YthimcidkmnobnaaPlm
namespace Go.Proofs.Ythimcidkmnobnaa
open Go.ChangeShapes Go.WideShapes Go.ChangeAt Go.RowKit

/-- block g is new and empty, apart from t and from B -/
structure NewB (t B : Nat) (w : World) (g : Nat) : Prop where
  hs : Hs w g ⟨⟨#[]⟩, 0, 0⟩
  nt : g ≠ t
  nB : g ≠ B
  nB' : B ≠ g
  gt : t < g
theorem NewB.mk' {t B : Nat} {W : World} (ht : t < W.heap.size) (hB : B < W.heap.size) : NewB t B (W.alloc (.cells #[.string ⟨#[]⟩, .int .i64 0, .int .i64 0] 27)) W.heap.size :=
  ⟨Hs.new W ⟨#[]⟩ 0 0, by omega, by omega, by omega, ht⟩
theorem NewB.tock {t B g : Nat} {w w' : World} (h : NewB t B w g) (ht : Tock t w w') : NewB t B w' g := ⟨h.hs.tock h.nt ht, h.nt, h.nB, h.nB', h.gt⟩
theorem TP.alloc {w0 w : World} {t : Nat} {a : Option Addr} {len cap : Nat} (h : TP w0 t a len cap w) (o : Obj) : TP w0 t a len cap (w.alloc o) := h.below ((Below.refl _ _).alloc (Nat.le_refl _) o) h.hi
theorem TP.belowW {w0 w w' : World} {t : Nat} {a : Option Addr} {len cap : Nat} (h : TP w0 t a len cap w) (hb : Below w.heap.size w w') : TP w0 t a len cap w' := h.below hb h.hi
theorem TP.drew {w0 w : World} {t : Nat} {a : Option Addr} {len cap : Nat} (h : TP w0 t a len cap w) : TP w0 t a len cap w.drew := h.below (Below.drew (Below.refl w.heap.size w)) h.hi
theorem Tock.alloc {t : Nat} {w w' : World} (h : Tock t w w') (o : Obj) : Tock t w (w'.alloc o) := h.trans (Tock.ofBelow ((Below.refl _ _).alloc (Nat.le_refl _) o) (Nat.le_refl _))
theorem Tock.drew {t : Nat} {w w' : World} (h : Tock t w w') : Tock t w w'.drew := h.trans (Tock.ofBelow (Below.drew (Below.refl w'.heap.size w')) (Nat.le_refl _))
theorem Tock.undrew {t : Nat} {w w' : World} (h : Tock t w.drew w') : Tock t w w' := ⟨h.os, h.tape, h.output, h.size, h.block⟩
theorem Tock.base {w w' : World} (h : Tock w.heap.size w w') : Below w.heap.size w w' := ⟨h.os, h.tape, h.output, h.size, fun k hk => h.block k (Nat.ne_of_lt hk) hk⟩
theorem Hs.drew {w : World} {b : Nat} {p : Pg} (h : Hs w b p) : Hs w.drew b p := h.below (Below.drew (Below.refl w.heap.size w))
end Go.Proofs.Ythimcidkmnobnaa
