/- The tape of numbers: its contracts. -/
import Derived.Test.YtflcbefomjlgmaaArgs
set_option linter.unusedSimpArgs false
set_option linter.unusedVariables false
namespace Go.Proofs.Ytflcbefomjlgmaa
open Go.ChangeShapes Go.WideShapes Go.ChangeAt Go.RowKit

/-- only block t has changed -/
structure Tick (t : Nat) (w w' : World) : Prop where
  os : w'.os = w.os
  tape : w'.tape = w.tape
  output : w'.output = w.output
  size : w'.heap.size = w.heap.size
  block : ∀ k, k ≠ t → w'.heap[k]? = w.heap[k]?
theorem Tick.refl (t : Nat) (w : World) : Tick t w w := ⟨rfl, rfl, rfl, rfl, fun _ _ => rfl⟩
theorem Tick.drewN {t : Nat} {w w' : World} (h : Tick t w w') (q : Nat) : Tick t w (w'.drewN q) := ⟨h.os, h.tape, h.output, h.size, h.block⟩
theorem Tick.drew {t : Nat} {w w' : World} (h : Tick t w w') : Tick t w w'.drew := ⟨h.os, h.tape, h.output, h.size, h.block⟩
theorem Tick.setCell {t : Nat} {w w' : World} (h : Tick t w w') (o : Nat) (u : Value) : Tick t w (w'.setCell ⟨t, o, none⟩ u) :=
  ⟨h.os, h.tape, h.output, by simp [World.setCell, h.size], fun k hk => (Below.heap_setCell w' ⟨t, o, none⟩ u k hk).trans (h.block k hk)⟩
theorem Tick.below {t B : Nat} {w w' : World} (h : Tick t w w') (hB : B ≤ t) : Below B w w' :=
  ⟨h.os, h.tape, h.output, Nat.le_of_eq h.size.symm, fun k hk => h.block k (by omega)⟩
theorem Tick.cell {t : Nat} {w w' : World} (h : Tick t w w') {b o : Nat} (hb : b ≠ t) : w'.cell? ⟨b, o, none⟩ = w.cell? ⟨b, o, none⟩ := World.cell?_of_block (w := w) (a := ⟨b, o, none⟩) (h.block b hb)
theorem Tick.frozen {t : Nat} {w w' : World} (h : Tick t w w') {b o : Nat} (hb : b ≠ t) : w'.frozen? ⟨b, o, none⟩ = w.frozen? ⟨b, o, none⟩ := World.frozen?_of_block (w := w) (a := ⟨b, o, none⟩) (h.block b hb)
theorem Tick.own {t : Nat} {w w' : World} (h : Tick t w w') {base : Nat} {e : TypeId} {size : Nat} {v : Value} {n : Nat} {xs : List Value} (hr : w.ownsRow base e size v n xs) (hb : t < base) : w'.ownsRow base e size v n xs := by
  obtain ⟨h1, h2⟩ := hr
  refine ⟨h1, ?_⟩
  rcases h2 with h2 | ⟨g, cap, cur, hv, hg, hh, r⟩
  · exact Or.inl h2
  · exact Or.inr ⟨g, cap, cur, hv, hg, (h.block g (by omega)).trans hh, r⟩

/-- block t holds the tape: its list and how far it has been read -/
structure TapeAt (w0 w : World) (t : Nat) (a : Option Addr) (len cap k : Nat) : Prop where
  row : ArgRow w0 a len
  lo : w0.heap.size ≤ t
  hi : t < w.heap.size
  bel : Below w0.heap.size w0 w
  c0 : w.cell? ⟨t, 0, none⟩ = some (.slice a len cap)
  c1 : w.cell? ⟨t, 1, none⟩ = some (.int .i64 k)
  fz : w.frozen? ⟨t, 1, none⟩ = false
  kl : k ≤ len
  lm : len ≤ maxLen
theorem TapeAt.below {w0 w w' : World} {t : Nat} {a : Option Addr} {len cap k B : Nat} (h : TapeAt w0 w t a len cap k) (hb : Below B w w') (hB : t < B) : TapeAt w0 w' t a len cap k :=
  ⟨h.row, h.lo, Nat.lt_of_lt_of_le h.hi hb.size, h.bel.trans (hb.mono (by have := h.lo; omega)), (hb.cell (p := ⟨t, 0, none⟩) hB).trans h.c0, (hb.cell (p := ⟨t, 1, none⟩) hB).trans h.c1, (hb.frozen (p := ⟨t, 1, none⟩) hB).trans h.fz, h.kl, h.lm⟩
theorem TapeAt.step {w0 w : World} {t : Nat} {a : Option Addr} {len cap k : Nat} (h : TapeAt w0 w t a len cap k) (hk : k < len) (q : Nat) : TapeAt w0 ((w.drewN q).setCell ⟨t, 1, none⟩ (.int .i64 ((k + 1 : Nat) : Int))) t a len cap (k + 1) where
  row := h.row
  lo := h.lo
  hi := by simp [World.setCell]; exact h.hi
  bel := Below.setCell (below_drewN h.bel q) h.lo _
  c0 := by rw [World.cell?_setCell_other]; exact h.c0; simp
  c1 := World.cell?_setCell_same _ _ _ (u := .int .i64 k) h.c1
  fz := by rw [World.frozen?_setCell]; exact h.fz
  kl := hk
  lm := h.lm

set_option maxHeartbeats 1000000 in
theorem next_any (n : Int) (w0 w : World) (t : Nat) (a : Option Addr) (len cap k : Nat) (hn : 1 ≤ n) (hn2 : n ≤ 1000000) (h : TapeAt w0 w t a len cap k) :
    Calls Try.prog 8 #[.pointer (some ⟨t, 0, none⟩), .int .i64 n] w fun e w' => ∃ r : Int, 0 ≤ r ∧ r < n ∧ e = .returned (.int .i64 r) ∧ Tick t w w' ∧ TapeAt w0 w' t a len cap (if k < len then k + 1 else k) := by
  have hlm := h.lm
  unfold maxLen at hlm
  have hc0 := h.c0; have hc1 := h.c1; have hfz := h.fz; have hhi := h.hi
  by_cases hk : k < len
  · rw [if_pos hk]
    obtain ⟨b, o, z, rfl, hb, hz⟩ := h.row.at h.bel k hk
    have c1 : (k : Int) < (len : Int) := by omega
    have hne : t ≠ b := by have := h.lo; omega
    have hst := fun q => h.step hk q
    have HS := Lib.hid hst
    have HK := Lib.hid hk
    clear hst hk h
    go_enter Try.func8, Try.ntmps8
    go_wp2_with fail
    go_quiet (fail)
    go_wp2_with fail
    have ht := HS.out nq
    have hz' : ((w.drewN nq).setCell ⟨t, 1, none⟩ (.int .i64 ((k : Int) + 1))).cell? ⟨b, o + k, none⟩ = some (.int .i64 z) := by
      rw [World.cell?_setCell_other]
      · exact hz
      · simp; try (intro h; exact absurd h hne)
    have htk : Tick t w ((w.drewN nq).setCell ⟨t, 1, none⟩ (.int .i64 ((k : Int) + 1))) := ((Tick.refl t w).drewN nq).setCell 1 _
    rw [show ((k + 1 : Nat) : Int) = (k : Int) + 1 from by omega] at ht
    generalize (w.drewN nq).setCell ⟨t, 1, none⟩ (.int .i64 ((k : Int) + 1)) = w2 at ht hz' htk ⊢
    have hd0 := ht.c0
    have hd1 := ht.c1
    rw [show ((k + 1 : Nat) : Int) = (k : Int) + 1 from by omega] at hd1
    have HT := Lib.hid ht
    have HTK := Lib.hid htk
    have hkk : IntKind.i64.wrap (k : Int) = (k : Int) := IntWalk.i64_in _ (by omega)
    clear ht htk hz hfz HS
    go_still_tail 12, (by kernel_rfl)
    change wpList _ _ _ _ _ w2.drew
    go_wp2_with fail
    refine (cut_some _ _ _ (by omega) (by omega)).mono ?_; rintro e w' ⟨r, hr0, hr1, rfl, rfl⟩
    go_wp2_with fail
    go_ret
    exact ⟨r, hr0, hr1, rfl, HTK.out.drew, HT.out.below (Below.drew (Below.refl w2.heap.size w2)) HT.out.hi⟩
  · rw [if_neg hk]
    have c1 : (len : Int) ≤ (k : Int) := by omega
    go_enter Try.func8, Try.ntmps8
    go_wp2_with fail
    go_quiet (fail)
    go_wp2_with fail
    go_ret
    exact ⟨0, by omega, by omega, rfl, (Tick.refl t w).drewN nq, h.below (below_drewN (Below.refl w.heap.size w) nq) h.hi⟩
set_option maxHeartbeats 1000000 in
theorem end_any (w0 w : World) (t : Nat) (a : Option Addr) (len cap k : Nat) (h : TapeAt w0 w t a len cap k) :
    Calls Try.prog 28 #[.pointer (some ⟨t, 0, none⟩)] w fun e w' => ∃ q, e = .returned (.bool (decide (len ≤ k))) ∧ w' = w.drewN q := by
  have hlm := h.lm
  unfold maxLen at hlm
  have hc0 := h.c0; have hc1 := h.c1
  clear h
  go_enter Try.func28, Try.ntmps28
  go_wp2_with fail
  go_quiet (fail)
  go_wp2_with fail
  go_ret
  exact ⟨nq, rfl, rfl⟩
end Go.Proofs.Ytflcbefomjlgmaa
