/- What the calls make of descriptors. -/
import Derived.Test.YtflcbefomjlgmaaFr
import Derived.Test.YtflcbefomjlgmaaIx
set_option linter.unusedSimpArgs false
set_option linter.unusedVariables false
namespace Go.Proofs.Ytflcbefomjlgmaa
open Go.ChangeShapes Go.WideShapes Go.ChangeAt Go.RowKit

def setE (t : List (List Int)) (p f : Nat) (z : Int) : List (List Int) := t.set p ((t.getD p []).set f z)
def bump (a : Dn) (z : Int) : Dn := ⟨a.fi, a.fl, a.f, a.cu, z⟩
def bumpL (o : List Dn) (n : Nat) (k : Int) : List Dn := o.set n (bump (o.getD n Dn.zero) ((o.getD n Dn.zero).rf + k))
/-! Open -/
def openE (d : De) (p fi fl c : Int) : Int := if procV d p ≠ 0 then procV d p else if (fixB fi fl && curB c) = false then 2 else if fst zeroB (tabAt d p) < 0 then 3 else 0
def openF (d : De) (p fi fl c : Int) : Int := if openE d p fi fl c = 0 then fst zeroB (tabAt d p) else 0
def slotN (o : List Dn) : Nat := if fst noneB o < 0 then o.length else (fst noneB o).toNat
def putD (o : List Dn) (x : Dn) : List Dn := if fst noneB o < 0 then o ++ [x] else o.set (fst noneB o).toNat x
def openD (d : De) (p fi fl c : Int) : De := if openE d p fi fl c = 0 then ⟨putD d.o ⟨fi, fl, 0, c, 1⟩, setE d.t p.toNat (fst zeroB (tabAt d p)).toNat ((slotN d.o : Int) + 1)⟩ else d
/-! Dup -/
def dupE (d : De) (p f : Int) : Int := if numE d p f ≠ 0 then numE d p f else if fst zeroB (tabAt d p) < 0 then 3 else 0
def dupF (d : De) (p f : Int) : Int := if dupE d p f = 0 then fst zeroB (tabAt d p) else 0
def dupD (d : De) (p f : Int) : De := if dupE d p f = 0 then ⟨bumpL d.o (numV d p f).toNat 1, setE d.t p.toNat (fst zeroB (tabAt d p)).toNat (numV d p f + 1)⟩ else d
/-! Close -/
def trimR : List Dn → List Dn
  | [] => []
  | a :: r => if a.rf = 0 then trimR r else a :: r
def trim (o : List Dn) : List Dn := (trimR o.reverse).reverse
def closeG (d : De) (p f : Int) : Bool := decide (numE d p f = 0) && decide ((d.o.getD (numV d p f).toNat Dn.zero).rf - 1 ≤ 0)
def closeD (d : De) (p f : Int) : De :=
  if numE d p f = 0 then
    ⟨if (d.o.getD (numV d p f).toNat Dn.zero).rf - 1 ≤ 0 then trim (d.o.set (numV d p f).toNat Dn.zero) else bumpL d.o (numV d p f).toNat (-1), setE d.t p.toNat f.toNat 0⟩
  else d
/-! Fork -/
def bumps (o : List Dn) : List Int → List Dn
  | [] => o
  | z :: r => bumps (if 0 < z then bumpL o (z - 1).toNat 1 else o) r
def forkE (d : De) (p q : Int) : Int := if procV d p ≠ 0 then procV d p else if procV d q ≠ 0 then procV d q else if p = q then 2 else if anyB (tabAt d q) = true then 5 else 0
def forkD (d : De) (p q : Int) : De := if forkE d p q = 0 then ⟨bumps d.o (tabAt d p), d.t.set q.toNat (tabAt d p)⟩ else d
/-! Update -/
def updE (d : De) (n f c : Int) : Int := if checkV d = false then 1 else if n < 0 ∨ (d.o.length : Int) ≤ n ∨ (d.o.getD n.toNat Dn.zero).rf = 0 then 4 else if movB f c = false then 2 else 0
def updD (d : De) (n f c : Int) : De := if updE d n f c = 0 then ⟨d.o.set n.toNat ⟨(d.o.getD n.toNat Dn.zero).fi, (d.o.getD n.toNat Dn.zero).fl, f, c, (d.o.getD n.toNat Dn.zero).rf⟩, d.t⟩ else d

theorem Wk.neT {B O : Nat} {W : World} {y : Dv} (h : Wk B W O y) (i : Nat) (hi : i < y.t.length) {g2 : Nat} (hg : (y.t.getD i Tb.nil).a = some ⟨g2, 0, none⟩) : O ≠ g2 := by
  have he := h.own.e _ (List.getElem_mem hi)
  rw [getD_get hi] at hg
  exact fun e => own_ne2 he (e' := 29) h.box.ty (by decide) g2 (by unfold Tb.val; rw [hg]; rfl) e.symm
theorem Wk.neO {B O : Nat} {W : World} {y : Dv} (h : Wk B W O y) {g : Nat} (hg : y.oa = some ⟨g, 0, none⟩) : O ≠ g :=
  fun e => own_ne2 h.own.o (e' := 29) h.box.ty (by decide) g (by rw [hg]; rfl) e.symm
theorem Wk.neR {B O : Nat} {W : World} {y : Dv} (h : Wk B W O y) {g : Nat} (hg : y.ta = some ⟨g, 0, none⟩) : O ≠ g :=
  fun e => own_ne2 h.own.t (e' := 29) h.box.ty (by decide) g (by rw [hg]; rfl) e.symm
theorem tset_pl (t : List Tb) (i j : Nat) (z : Int) : (tset t i j z).map Tb.l = setE (t.map Tb.l) i j z := tset_l t i j z
theorem there5 {W : World} {g o : Nat} {a : Dn} (h : DCel W g o a) (hf : ∀ j, W.frozen? ⟨g, j, none⟩ = false) : W.there g o 5 := by
  intro j hj
  refine ⟨?_, hf _⟩
  have h5 : j = 0 ∨ j = 1 ∨ j = 2 ∨ j = 3 ∨ j = 4 := by omega
  rcases h5 with rfl | rfl | rfl | rfl | rfl
  · rw [Nat.add_zero, h.c0]; rfl
  · rw [h.c1]; rfl
  · rw [h.c2]; rfl
  · rw [h.c3]; rfl
  · rw [h.c4]; rfl
end Go.Proofs.Ytflcbefomjlgmaa
