/- Layer 46, shared texts of this seat, part 00. -/
import Derived.WalkKit
import Derived.ProofKit
import Derived.OpenShut
import Derived.WalkSmall
import Derived.WalkLawsBesides
import Derived.WalkSpells
import Derived.Lib.Hide
import Derived.StillTailTactics
import Derived.Deep.QuietTactic
import Derived.BigQuiet
import Derived.Deep.RegionWith
import Derived.Deep.RegionHeld3
import Derived.Deep.DeepCutAuto
import Derived.Deep.OwnRows
import Derived.LoopTactic
import Derived.Test.YtimhaidiclbnhaaGreatRows
/- Small words that all texts of this seat share: a returned value over a world in which nothing old has changed. -/
set_option linter.unusedSimpArgs false
set_option linter.unusedVariables false
namespace Go.Proofs.YtimhaidiclbnhaaGreat
open Go.ChangeShapes Go.WideShapes Go.ChangeAt Go.RowKit

def RetW (v : Value) (w : World) (e : Ending) (w' : World) : Prop := e = .returned v ∧ Below w.heap.size w w'
theorem RetW.mk {v v' : Value} {w w' : World} (h : v' = v) (hb : Below w.heap.size w w') : RetW v w (.returned v') w' := ⟨by rw [h], hb⟩
theorem bcell {W w1 : World} (hb : Below W.heap.size W w1) : (∀ b o, b < W.heap.size → w1.cell? ⟨b, o, none⟩ = W.cell? ⟨b, o, none⟩) ∧ (∀ b o, b < W.heap.size → w1.frozen? ⟨b, o, none⟩ = W.frozen? ⟨b, o, none⟩) :=
  ⟨fun b o h => hb.cell (p := ⟨b, o, none⟩) h, fun b o h => hb.frozen (p := ⟨b, o, none⟩) h⟩
theorem bnext {W w1 : World} {B : Nat} (hb : Below W.heap.size W w1) (hB : B ≤ W.heap.size) : B ≤ w1.heap.size := Nat.le_trans hB hb.size
theorem ret_int {k : IntKind} {a b : Int} (h : a = b) : Ending.returned (.int k a) = .returned (.int k b) := by rw [h]
/-- n modulo m, n taken as 64 bits without a sign -/
def rnd (n m : Int) : Int := (n % 18446744073709551616) % m
theorem rnd_lo (n m : Int) (hm : 1 ≤ m) : 0 ≤ rnd n m := Int.emod_nonneg _ (by omega)
theorem rnd_hi (n m : Int) (hm : 1 ≤ m) : rnd n m < m := Int.emod_lt_of_pos _ (by omega)
theorem rnd_eq (n m : Int) (hm : 1 ≤ m) (hm2 : m ≤ 1000000) : wrap64 ((IntKind.u64.wrap n).tmod m) = rnd n m := by
  have e : IntKind.u64.wrap n = n % 18446744073709551616 := rfl
  have h0 : 0 ≤ n % 18446744073709551616 := Int.emod_nonneg _ (by omega)
  rw [e, Int.tmod_eq_emod_of_nonneg h0]
  have := rnd_lo n m hm; have := rnd_hi n m hm
  unfold rnd at *
  exact IntWalk.wrap64_in _ (by omega)
theorem rnd_eq' (n m : Int) (hm : 1 ≤ m) (hm2 : m ≤ 1000000) : wrap64 ((IntKind.u64.wrap n).tmod (IntKind.u64.wrap m)) = rnd n m := by
  have e : IntKind.u64.wrap m = m := by show m % 18446744073709551616 = m; omega
  rw [e]; exact rnd_eq n m hm hm2
set_option maxHeartbeats 400000 in
theorem cut_any (n m : Int) (w : World) (hm : 1 ≤ m) (hm2 : m ≤ 1000000) :
    Calls Tryz.prog 15 #[.int .i64 n, .int .i64 m] w fun e w' => e = .returned (.int .i64 (rnd n m)) ∧ w = w' := by
  go_enter Tryz.func15, Tryz.ntmps15
  go_wp2
  go_ret
  exact ⟨ret_int (by first | exact rnd_eq n m hm hm2 | exact rnd_eq' n m hm hm2), rfl⟩
theorem cut_some (n m : Int) (w : World) (hm : 1 ≤ m) (hm2 : m ≤ 1000000) :
    Calls Tryz.prog 15 #[.int .i64 n, .int .i64 m] w fun e w' => ∃ r : Int, 0 ≤ r ∧ r < m ∧ e = .returned (.int .i64 r) ∧ w = w' :=
  (cut_any n m w hm hm2).mono fun e w' h => ⟨rnd n m, rnd_lo n m hm, rnd_hi n m hm, h⟩

end Go.Proofs.YtimhaidiclbnhaaGreat
/- A slice of integers that came in as an argument, as far as its length. -/
set_option linter.unusedSimpArgs false
set_option linter.unusedVariables false
namespace Go.Proofs.YtimhaidiclbnhaaGreat
open Go.ChangeShapes Go.WideShapes Go.ChangeAt Go.RowKit

/-- each element lies in an old block -/
def ArgRow (w : World) (a : Option Addr) (len : Nat) : Prop :=
  ∃ (b o : Nat) (zs : List Int), len ≤ zs.length ∧ ∀ k, k < len → a = some ⟨b, o, none⟩ ∧ b < w.heap.size ∧ w.cell? ⟨b, o + k, none⟩ = some (.int .i64 (zs.getD k 0))
theorem ArgRow.at {w wr : World} {a : Option Addr} {len : Nat} (h : ArgRow w a len) (hb : Below w.heap.size w wr) (k : Nat) (hk : k < len) :
    ∃ b o z, a = some ⟨b, o, none⟩ ∧ b < w.heap.size ∧ wr.cell? ⟨b, o + k, none⟩ = some (.int .i64 z) := by
  obtain ⟨b, o, zs, _, hh⟩ := h
  obtain ⟨h1, h2, h3⟩ := hh k hk
  exact ⟨b, o, _, h1, h2, (hb.cell (p := ⟨b, o + k, none⟩) h2).trans h3⟩
end Go.Proofs.YtimhaidiclbnhaaGreat
/- The tape of numbers: its contracts. -/
set_option linter.unusedSimpArgs false
set_option linter.unusedVariables false
namespace Go.Proofs.YtimhaidiclbnhaaGreat
open Go.ChangeShapes Go.WideShapes Go.ChangeAt Go.RowKit

/-- only block t has changed -/
structure Tick (t : Nat) (w w' : World) : Prop where
  os : w'.os = w.os
  tape : w'.tape = w.tape
  output : w'.output = w.output
  size : w'.heap.size = w.heap.size
  block : ∀ k, k ≠ t → w'.heap[k]? = w.heap[k]?
theorem Tick.refl (t : Nat) (w : World) : Tick t w w := ⟨rfl, rfl, rfl, rfl, fun _ _ => rfl⟩
theorem Tick.drewN {t : Nat} {w w' : World} (h : Tick t w w') (q : Nat) : Tick t w (w'.drewN q) := ⟨h.os, h.tape, h.output, h.size, h.block⟩
theorem Tick.drew {t : Nat} {w w' : World} (h : Tick t w w') : Tick t w w'.drew := ⟨h.os, h.tape, h.output, h.size, h.block⟩
theorem Tick.setCell {t : Nat} {w w' : World} (h : Tick t w w') (o : Nat) (u : Value) : Tick t w (w'.setCell ⟨t, o, none⟩ u) :=
  ⟨h.os, h.tape, h.output, by simp [World.setCell, h.size], fun k hk => (Below.heap_setCell w' ⟨t, o, none⟩ u k hk).trans (h.block k hk)⟩
theorem Tick.below {t B : Nat} {w w' : World} (h : Tick t w w') (hB : B ≤ t) : Below B w w' :=
  ⟨h.os, h.tape, h.output, Nat.le_of_eq h.size.symm, fun k hk => h.block k (by omega)⟩
theorem Tick.cell {t : Nat} {w w' : World} (h : Tick t w w') {b o : Nat} (hb : b ≠ t) : w'.cell? ⟨b, o, none⟩ = w.cell? ⟨b, o, none⟩ := World.cell?_of_block (w := w) (a := ⟨b, o, none⟩) (h.block b hb)
theorem Tick.frozen {t : Nat} {w w' : World} (h : Tick t w w') {b o : Nat} (hb : b ≠ t) : w'.frozen? ⟨b, o, none⟩ = w.frozen? ⟨b, o, none⟩ := World.frozen?_of_block (w := w) (a := ⟨b, o, none⟩) (h.block b hb)
theorem Tick.own {t : Nat} {w w' : World} (h : Tick t w w') {base : Nat} {e : TypeId} {size : Nat} {v : Value} {n : Nat} {xs : List Value} (hr : w.ownsRow base e size v n xs) (hb : t < base) : w'.ownsRow base e size v n xs := by
  obtain ⟨h1, h2⟩ := hr
  refine ⟨h1, ?_⟩
  rcases h2 with h2 | ⟨g, cap, cur, hv, hg, hh, r⟩
  · exact Or.inl h2
  · exact Or.inr ⟨g, cap, cur, hv, hg, (h.block g (by omega)).trans hh, r⟩

/-- block t holds the tape: its list and how far it has been read -/
structure TapeAt (w0 w : World) (t : Nat) (a : Option Addr) (len cap k : Nat) : Prop where
  row : ArgRow w0 a len
  lo : w0.heap.size ≤ t
  hi : t < w.heap.size
  bel : Below w0.heap.size w0 w
  c0 : w.cell? ⟨t, 0, none⟩ = some (.slice a len cap)
  c1 : w.cell? ⟨t, 1, none⟩ = some (.int .i64 k)
  fz : w.frozen? ⟨t, 1, none⟩ = false
  kl : k ≤ len
  lm : len ≤ maxLen
theorem TapeAt.below {w0 w w' : World} {t : Nat} {a : Option Addr} {len cap k B : Nat} (h : TapeAt w0 w t a len cap k) (hb : Below B w w') (hB : t < B) : TapeAt w0 w' t a len cap k :=
  ⟨h.row, h.lo, Nat.lt_of_lt_of_le h.hi hb.size, h.bel.trans (hb.mono (by have := h.lo; omega)), (hb.cell (p := ⟨t, 0, none⟩) hB).trans h.c0, (hb.cell (p := ⟨t, 1, none⟩) hB).trans h.c1, (hb.frozen (p := ⟨t, 1, none⟩) hB).trans h.fz, h.kl, h.lm⟩
theorem TapeAt.step {w0 w : World} {t : Nat} {a : Option Addr} {len cap k : Nat} (h : TapeAt w0 w t a len cap k) (hk : k < len) (q : Nat) : TapeAt w0 ((w.drewN q).setCell ⟨t, 1, none⟩ (.int .i64 ((k + 1 : Nat) : Int))) t a len cap (k + 1) where
  row := h.row
  lo := h.lo
  hi := by simp [World.setCell]; exact h.hi
  bel := Below.setCell (below_drewN h.bel q) h.lo _
  c0 := by rw [World.cell?_setCell_other]; exact h.c0; simp
  c1 := World.cell?_setCell_same _ _ _ (u := .int .i64 k) h.c1
  fz := by rw [World.frozen?_setCell]; exact h.fz
  kl := hk
  lm := h.lm

set_option maxRecDepth 100000 in
set_option maxHeartbeats 1000000 in
theorem next_any (n : Int) (w0 w : World) (t : Nat) (a : Option Addr) (len cap k : Nat) (hn : 1 ≤ n) (hn2 : n ≤ 1000000) (h : TapeAt w0 w t a len cap k) :
    Calls Tryz.prog 9 #[.pointer (some ⟨t, 0, none⟩), .int .i64 n] w fun e w' => ∃ r : Int, 0 ≤ r ∧ r < n ∧ e = .returned (.int .i64 r) ∧ Tick t w w' ∧ TapeAt w0 w' t a len cap (if k < len then k + 1 else k) := by
  have hlm := h.lm
  unfold maxLen at hlm
  have hc0 := h.c0; have hc1 := h.c1; have hfz := h.fz; have hhi := h.hi
  by_cases hk : k < len
  · rw [if_pos hk]
    obtain ⟨b, o, z, rfl, hb, hz⟩ := h.row.at h.bel k hk
    have c1 : (k : Int) < (len : Int) := by omega
    have hne : t ≠ b := by have := h.lo; omega
    have hst := fun q => h.step hk q
    have HS := Lib.hid hst
    have HK := Lib.hid hk
    clear hst hk h
    go_enter Tryz.func9, Tryz.ntmps9
    go_wp2_with fail
    go_quiet (fail)
    go_wp2_with fail
    have ht := HS.out nq
    have hz' : ((w.drewN nq).setCell ⟨t, 1, none⟩ (.int .i64 ((k : Int) + 1))).cell? ⟨b, o + k, none⟩ = some (.int .i64 z) := by
      rw [World.cell?_setCell_other]
      · exact hz
      · simp; try (intro h; exact absurd h hne)
    have htk : Tick t w ((w.drewN nq).setCell ⟨t, 1, none⟩ (.int .i64 ((k : Int) + 1))) := ((Tick.refl t w).drewN nq).setCell 1 _
    rw [show ((k + 1 : Nat) : Int) = (k : Int) + 1 from by omega] at ht
    generalize (w.drewN nq).setCell ⟨t, 1, none⟩ (.int .i64 ((k : Int) + 1)) = w2 at ht hz' htk ⊢
    have hd0 := ht.c0
    have hd1 := ht.c1
    rw [show ((k + 1 : Nat) : Int) = (k : Int) + 1 from by omega] at hd1
    have HT := Lib.hid ht
    have HTK := Lib.hid htk
    have hkk : IntKind.i64.wrap (k : Int) = (k : Int) := IntWalk.i64_in _ (by omega)
    clear ht htk hz hfz HS
    go_still_tail 12, (by kernel_rfl)
    change wpList _ _ _ _ _ w2.drew
    go_wp2_with fail
    refine (cut_some _ _ _ (by omega) (by omega)).mono ?_; rintro e w' ⟨r, hr0, hr1, rfl, rfl⟩
    go_wp2_with fail
    go_ret
    exact ⟨r, hr0, hr1, rfl, HTK.out.drew, HT.out.below (Below.drew (Below.refl w2.heap.size w2)) HT.out.hi⟩
  · rw [if_neg hk]
    have c1 : (len : Int) ≤ (k : Int) := by omega
    go_enter Tryz.func9, Tryz.ntmps9
    go_wp2_with fail
    go_quiet (fail)
    go_wp2_with fail
    go_ret
    exact ⟨0, by omega, by omega, rfl, (Tick.refl t w).drewN nq, h.below (below_drewN (Below.refl w.heap.size w) nq) h.hi⟩
end Go.Proofs.YtimhaidiclbnhaaGreat
/- Runs of bytes that this seat's texts share: make([]byte, n), string(b). -/
set_option linter.unusedSimpArgs false
set_option linter.unusedVariables false
namespace Go.Proofs.YtimhaidiclbnhaaGreat
open Go.ChangeShapes Go.WideShapes Go.ChangeAt Go.RowKit

/-- so many zero bytes -/
def zeros (n : Nat) : ByteArray := ⟨(List.replicate n (0 : UInt8)).toArray⟩
theorem size_zeros (n : Nat) : (zeros n).size = n := by simp [zeros, ByteArray.size]

theorem made_at (z : Value) (n j : Nat) (h : j < n) : (madeCells #[z] n)[j]? = some z := by
  unfold madeCells
  simp [h, Nat.mod_one]

theorem byte_info : (Tryz.prog.info? 5).map (fun i => (i.zero, i.size, i.bytes)) = some (some (.int .u8 0), 1, 1) := by kernel_rfl

/-- make([]byte, n) -/
theorem make_bytes (n : Int) (h0 : 0 ≤ n) (h1 : n ≤ 1000000) (w : World) :
    (Instr.makeSlice 68 (.int .i64 n) (.int .i64 n)).run Tryz.prog w = .ok (.slice (some ⟨w.heap.size, 0, none⟩) n.toNat n.toNat) (w.alloc (.cells (madeCells #[.int .u8 0] n.toNat) 5)) := by
  obtain ⟨k, rfl⟩ := Int.eq_ofNat_of_zero_le h0
  exact run_make_row' (P := Tryz.prog) 68 5 (.int .u8 0) 1 Tryz.underlying68 byte_info rfl .i64 .i64 k (by omega) (by omega) w

/-- string(b), b a row of bytes of its own block -/
theorem conv_bytes (w : World) (b n cap : Nat) (l : List UInt8) (hn : l.length = n) (hc : ∀ j (hj : j < l.length), w.cell? ⟨b, j, none⟩ = some (.int .u8 (l[j].toNat : Int))) :
    (convert 68 9 (.slice (some ⟨b, 0, none⟩) n cap)).run Tryz.prog w = .ok (.string ⟨l.toArray⟩) w := by
  subst hn
  refine run_convert_bytes_back (P := Tryz.prog) w 68 9 5 ⟨b, 0, none⟩ cap l Tryz.underlying68 Tryz.underlying5 Tryz.underlying9 ?_
  intro j hj
  have : (⟨b, 0, none⟩ : Addr).add j = ⟨b, j, none⟩ := by unfold Addr.add; split <;> simp_all
  rw [this]; exact hc j hj

/-- string(make([]byte, n)) -/
theorem conv_zeros (n : Nat) (w : World) :
    (convert 68 9 (.slice (some ⟨w.heap.size, 0, none⟩) n n)).run Tryz.prog (w.alloc (.cells (madeCells #[.int .u8 0] n) 5)) = .ok (.string (zeros n)) (w.alloc (.cells (madeCells #[.int .u8 0] n) 5)) := by
  refine conv_bytes _ _ n n (List.replicate n 0) (by simp) ?_
  intro j hj
  have hj' : j < n := by simpa using hj
  rw [World.cell?_alloc_mark, made_at _ _ _ hj']
  simp
end Go.Proofs.YtimhaidiclbnhaaGreat
/- The tape's strings and numbers about limits. -/
set_option linter.unusedSimpArgs false
set_option linter.unusedVariables false
namespace Go.Proofs.YtimhaidiclbnhaaGreat
open Go.ChangeShapes Go.WideShapes Go.ChangeAt Go.RowKit

/-- block t holds the tape, wherever it has come to -/
def TP (w0 : World) (t : Nat) (a : Option Addr) (len cap : Nat) (w : World) : Prop := ∃ k, TapeAt w0 w t a len cap k
/-- of the blocks that there were only block t has changed -/
structure Tock (t : Nat) (w w' : World) : Prop where
  os : w'.os = w.os
  tape : w'.tape = w.tape
  output : w'.output = w.output
  size : w.heap.size ≤ w'.heap.size
  block : ∀ k, k ≠ t → k < w.heap.size → w'.heap[k]? = w.heap[k]?
theorem Tock.refl (t : Nat) (w : World) : Tock t w w := ⟨rfl, rfl, rfl, Nat.le_refl _, fun _ _ _ => rfl⟩
theorem Tick.tock {t : Nat} {w w' : World} (h : Tick t w w') : Tock t w w' := ⟨h.os, h.tape, h.output, Nat.le_of_eq h.size.symm, fun k hk _ => h.block k hk⟩
theorem Tock.ofBelow {t B : Nat} {w w' : World} (h : Below B w w') (hB : w.heap.size ≤ B) : Tock t w w' := ⟨h.os, h.tape, h.output, h.size, fun k _ hk => h.block k (Nat.lt_of_lt_of_le hk hB)⟩
theorem Tock.trans {t : Nat} {w w1 w2 : World} (h1 : Tock t w w1) (h2 : Tock t w1 w2) : Tock t w w2 :=
  ⟨h2.os.trans h1.os, h2.tape.trans h1.tape, h2.output.trans h1.output, Nat.le_trans h1.size h2.size, fun k hk hl => (h2.block k hk (Nat.lt_of_lt_of_le hl h1.size)).trans (h1.block k hk hl)⟩
theorem Tock.cell {t : Nat} {w w' : World} (h : Tock t w w') {b o : Nat} (hb : b ≠ t) (hl : b < w.heap.size) : w'.cell? ⟨b, o, none⟩ = w.cell? ⟨b, o, none⟩ := World.cell?_of_block (w := w) (a := ⟨b, o, none⟩) (h.block b hb hl)
theorem Tock.frozen {t : Nat} {w w' : World} (h : Tock t w w') {b o : Nat} (hb : b ≠ t) (hl : b < w.heap.size) : w'.frozen? ⟨b, o, none⟩ = w.frozen? ⟨b, o, none⟩ := World.frozen?_of_block (w := w) (a := ⟨b, o, none⟩) (h.block b hb hl)
theorem TP.bel {w0 w : World} {t : Nat} {a : Option Addr} {len cap : Nat} (h : TP w0 t a len cap w) : Below w0.heap.size w0 w := h.choose_spec.bel
theorem TP.lo {w0 w : World} {t : Nat} {a : Option Addr} {len cap : Nat} (h : TP w0 t a len cap w) : w0.heap.size ≤ t := h.choose_spec.lo
theorem TP.hi {w0 w : World} {t : Nat} {a : Option Addr} {len cap : Nat} (h : TP w0 t a len cap w) : t < w.heap.size := h.choose_spec.hi
theorem TP.below {w0 w w' : World} {t : Nat} {a : Option Addr} {len cap B : Nat} (h : TP w0 t a len cap w) (hb : Below B w w') (hB : t < B) : TP w0 t a len cap w' := by
  obtain ⟨k, h⟩ := h
  exact ⟨k, h.below hb hB⟩
theorem next_tp (n : Int) (w0 w : World) (t : Nat) (a : Option Addr) (len cap : Nat) (hn : 1 ≤ n) (hn2 : n ≤ 1000000) (h : TP w0 t a len cap w) :
    Calls Tryz.prog 9 #[.pointer (some ⟨t, 0, none⟩), .int .i64 n] w fun e w' => ∃ r : Int, 0 ≤ r ∧ r < n ∧ e = .returned (.int .i64 r) ∧ Tick t w w' ∧ TP w0 t a len cap w' := by
  obtain ⟨k, h⟩ := h
  exact (next_any n w0 w t a len cap k hn hn2 h).mono fun e w' ⟨r, h0, h1, he, ht, hk⟩ => ⟨r, h0, h1, he, ht, _, hk⟩

structure BInv (w0 w : World) (t : Nat) (a : Option Addr) (len cap n : Nat) (l : List UInt8) (wr : World) : Prop where
  tp : TP w0 t a len cap wr
  tk : Tock t w wr
  hi : w.heap.size < wr.heap.size
  tl : t < w.heap.size
  cell : ∀ j, j < n → wr.cell? ⟨w.heap.size, j, none⟩ = some (.int .u8 ((l.getD j 0).toNat : Int))
  free : ∀ j, wr.frozen? ⟨w.heap.size, j, none⟩ = false
theorem BInv.start {w0 w : World} {t : Nat} {a : Option Addr} {len cap : Nat} (n : Nat) (h : TP w0 t a len cap w) : BInv w0 w t a len cap n [] (w.alloc (.cells (madeCells #[.int .u8 0] n) 5)) := by
  have hb := (Below.refl w.heap.size w).alloc (Nat.le_refl _) (.cells (madeCells #[.int .u8 0] n) 5)
  refine ⟨h.below hb h.hi, Tock.ofBelow hb (Nat.le_refl _), by simp, h.hi, fun j hj => ?_, fun j => by simp⟩
  rw [World.cell?_alloc_mark, made_at _ _ _ hj]; simp
theorem BInv.tick {w0 w wr w' : World} {t : Nat} {a : Option Addr} {len cap n : Nat} {l : List UInt8} (h : BInv w0 w t a len cap n l wr) (ht : Tick t wr w') (hp : TP w0 t a len cap w') : BInv w0 w t a len cap n l w' :=
  ⟨hp, h.tk.trans ht.tock, by rw [ht.size]; exact h.hi, h.tl, fun j hj => by rw [ht.cell (by have := h.tl; omega)]; exact h.cell j hj, fun j => by rw [ht.frozen (by have := h.tl; omega)]; exact h.free j⟩
theorem BInv.set {w0 w wr : World} {t : Nat} {a : Option Addr} {len cap n : Nat} {l : List UInt8} (h : BInv w0 w t a len cap n l wr) (k : Nat) (hk : k < n) (hl : l.length = k) (x : UInt8) :
    BInv w0 w t a len cap n (l ++ [x]) (wr.setCell ⟨w.heap.size, k, none⟩ (.int .u8 (x.toNat : Int))) := by
  have htl := h.tl
  have hb : Below w.heap.size wr (wr.setCell ⟨w.heap.size, k, none⟩ (.int .u8 (x.toNat : Int))) := (Below.refl _ _).setCell (p := ⟨w.heap.size, k, none⟩) (Nat.le_refl _) _
  refine ⟨h.tp.below hb htl, ?_, by simpa [World.setCell] using h.hi, htl, fun j hj => ?_, fun j => by rw [World.frozen?_setCell]; exact h.free j⟩
  · exact ⟨h.tk.os, h.tk.tape, h.tk.output, Nat.le_trans h.tk.size hb.size, fun i hi hil => (hb.block i hil).trans (h.tk.block i hi hil)⟩
  · by_cases e : j = k
    · subst e
      rw [World.cell?_setCell_same _ _ _ (h.cell j hj)]
      simp [List.getD, ← hl]
    · rw [World.cell?_setCell_other _ _ _ _ (by intro h; exact e (by cases h; rfl)), h.cell j hj]
      congr 3
      by_cases h1 : j < k
      · simp [List.getD, List.getElem?_append_left (show j < l.length by omega)]
      · have h2 : l[j]? = none := List.getElem?_eq_none (by omega)
        have h3 : (l ++ [x])[j]? = none := List.getElem?_eq_none (by simp; omega)
        simp [List.getD, h2, h3]
theorem BInv.conv {w0 w wr : World} {t : Nat} {a : Option Addr} {len cap n : Nat} {l : List UInt8} (h : BInv w0 w t a len cap n l wr) (hl : l.length = n) :
    (convert 68 9 (.slice (some ⟨w.heap.size, 0, none⟩) n n)).run Tryz.prog wr = .ok (.string ⟨l.toArray⟩) wr := by
  refine conv_bytes wr w.heap.size n n l hl ?_
  intro j hj
  rw [h.cell j (by omega)]
  simp [List.getD, List.getElem?_eq_getElem hj]

set_option maxHeartbeats 1000000 in
theorem bytes_any (n : Nat) (w0 w : World) (t : Nat) (a : Option Addr) (len cap : Nat) (hn : n ≤ 1000) (h : TP w0 t a len cap w) :
    Calls Tryz.prog 8 #[.pointer (some ⟨t, 0, none⟩), .int .i64 n] w fun e w' => ∃ s : ByteArray, s.size = n ∧ e = .returned (.string s) ∧ Tock t w w' ∧ TP w0 t a len cap w' := by
  have hmk := make_bytes (n : Int) (by omega) (by omega)
  rw [show ((n : Int)).toNat = n from by omega] at hmk
  have hst := BInv.start n h
  have HST := Lib.hid hst
  clear hst
  go_enter Tryz.func8, Tryz.ntmps8
  go_wp2_with fail
  go_loopw [11] (fun i wr => ∃ k : Nat, k ≤ n ∧ i = .int .i64 k ∧ ∃ l : List UInt8, l.length = k ∧ BInv w0 w t a len cap n l wr) (fun i _ => n - (intOf i).toNat)
  case atStart => exact ⟨0, Nat.zero_le _, rfl, [], rfl, HST.out⟩
  case round =>
    obtain ⟨k, hk, rfl, l, hl, hinv⟩ := hrel
    have HL := Lib.hid hl
    clear hl
    by_cases hlt : k < n
    · have htp := hinv.tp
      go_wp2_with (go_at_call 9; refine (next_tp 8 _ _ _ _ _ _ (by omega) (by omega) htp).mono ?_; rintro e w' ⟨r, hr0, hr1, rfl, htk, htp'⟩; have hinv' := hinv.tick htk htp'; have c0 := hinv'.cell k hlt; have f0 := hinv'.free k)
      go_roundw
      case rel => exact ⟨k + 1, by omega, by go_num, l ++ [_], by simp [HL.out], hinv'.set k hlt HL.out _⟩
      case measure => simp [intOf]; omega
    · obtain rfl : k = n := by omega
      have hcv := hinv.conv HL.out
      go_wp2_with fail
      go_ret
      refine ⟨⟨l.toArray⟩, ?_, rfl, hinv.tk, hinv.tp⟩
      rw [← HL.out]; rfl

end Go.Proofs.YtimhaidiclbnhaaGreat
/- Sequences of errors, as far as cursors go. -/
set_option maxRecDepth 100000
set_option linter.unusedSimpArgs false
set_option linter.unusedVariables false
namespace Go.Proofs.YtimhaidiclbnhaaGreat.Des
open Go.ChangeShapes Go.WideShapes Go.ChangeAt Go.RowKit

/-- a sequence is right -/
def rightB (c e : Int) : Bool := decide (0 ≤ c) && decide (c ≤ 1000000) && ((c == 0) == (e == 0))

set_option maxHeartbeats 400000 in
theorem right_any (c e : Int) (w : World) :
    Calls Tryz.prog 159 #[.agg #[.int .i64 c, .int .i64 e]] w (RetW (.bool (rightB c e)) w) := by
  go_enter Tryz.func159, Tryz.ntmps159
  go_wp2
  all_goals
    go_ret
    refine RetW.mk (by unfold rightB; simp [*]; try omega) ?_
    exact (Below.refl _ _).alloc (Nat.le_refl _) _
theorem right_bd {c e : Int} (h : rightB c e = true) : 0 ≤ c ∧ c ≤ 1000000 ∧ (c = 0 ↔ e = 0) := by
  unfold rightB at h; simp at h
  refine ⟨h.1.1, h.1.2, ?_⟩
  have := h.2
  by_cases h1 : c = 0 <;> by_cases h2 : e = 0 <;> simp_all

def wellB (c e u : Int) : Bool := rightB c e && decide (0 ≤ u) && decide (u ≤ c)
set_option maxHeartbeats 1000000 in
theorem well_any (c e u : Int) (b : Nat) (w : World) (hb0 : b < w.heap.size) (hu : w.cell? ⟨b, 0, none⟩ = some (.int .i64 u)) :
    Calls Tryz.prog 152 #[.pointer (some ⟨b, 0, none⟩), .agg #[.int .i64 c, .int .i64 e]] w (RetW (.bool (wellB c e u)) w) := by
  unfold wellB
  have hne : b ≠ w.heap.size := by omega
  have hlt : b < w.heap.size + 1 := by omega
  by_cases hr : rightB c e = true
  · by_cases hu0 : 0 ≤ u
    · have hd : decide (0 ≤ u) = true := by simpa using hu0
      go_enter Tryz.func152, Tryz.ntmps152
      go_wp2_with fail
      go_region_held3 (fun w' => w'.cell? ⟨b, 0, none⟩ = some (.int .i64 u) ∧ w'.cell? ⟨w.heap.size, 0, none⟩ = some (.int .i64 c) ∧ w'.cell? ⟨w.heap.size, 1, none⟩ = some (.int .i64 e)) (go_keep) (first | (go_at_call 159; refine (right_any _ _ _).mono ?_; rintro e w' ⟨rfl, hb⟩; obtain ⟨hc, hf⟩ := bcell hb; have hy : w.heap.size < w'.heap.size := bnext (B := w.heap.size + 1) hb (by first | assumption | simp)))
      all_goals
        go_wp2
        go_ret
        refine RetW.mk (by simp [Act.put, *]; try omega) ?_
        repeat (first | exact Below.refl _ _ | (refine Below.drew ?_) | (refine Below.setCell ?_ (by simp) _) | (refine Below.alloc ?_ (by first | (simp; done) | (simp; omega)) _) | refine Below.trans ?_ (Below.mono (by assumption) (by first | omega | (simp; done) | (simp; omega))))
    · have hd : decide (0 ≤ u) = false := by simpa using hu0
      go_enter Tryz.func152, Tryz.ntmps152
      go_wp2_with fail
      (first | go_region_with (go_at_call 159; refine (right_any _ _ _).mono ?_; rintro e w' ⟨rfl, hb⟩; obtain ⟨hc, hf⟩ := bcell hb; have hy : w.heap.size < w'.heap.size := bnext (B := w.heap.size + 1) hb (by first | assumption | simp)) | fail)
      all_goals
        go_wp2
        go_ret
        refine RetW.mk (by simp [Act.put, *]; try omega) ?_
        repeat (first | exact Below.refl _ _ | (refine Below.drew ?_) | (refine Below.setCell ?_ (by simp) _) | (refine Below.alloc ?_ (by first | (simp; done) | (simp; omega)) _) | refine Below.trans ?_ (Below.mono (by assumption) (by first | omega | (simp; done) | (simp; omega))))
  · have hr : rightB c e = false := by simpa using hr
    go_enter Tryz.func152, Tryz.ntmps152
    go_wp2_with fail
    (first | go_region_with (go_at_call 159; refine (right_any _ _ _).mono ?_; rintro e w' ⟨rfl, hb⟩; obtain ⟨hc, hf⟩ := bcell hb; have hy : w.heap.size < w'.heap.size := bnext (B := w.heap.size + 1) hb (by first | assumption | simp)) | fail)
    all_goals
      go_wp2
      go_ret
      refine RetW.mk (by simp [Act.put, *]; try omega) ?_
      repeat (first | exact Below.refl _ _ | (refine Below.drew ?_) | (refine Below.setCell ?_ (by simp) _) | (refine Below.alloc ?_ (by first | (simp; done) | (simp; omega)) _) | refine Below.trans ?_ (Below.mono (by assumption) (by first | omega | (simp; done) | (simp; omega))))

def lookS (c e u : Int) : Int × Int := if wellB c e u = false then (1, u) else if u = c then (0, u) else (e, c)
def LookPost (v u : Int) (b : Nat) (w : World) (e : Ending) (w' : World) : Prop :=
  e = .returned (.int .i64 v) ∧ Below b w w' ∧ w'.cell? ⟨b, 0, none⟩ = some (.int .i64 u) ∧ w'.frozen? ⟨b, 0, none⟩ = false ∧ b < w'.heap.size
theorem well_bd {c e u : Int} (h : wellB c e u = true) : 0 ≤ c ∧ c ≤ 1000000 ∧ 0 ≤ u ∧ u ≤ c := by
  unfold wellB at h; simp at h
  have := right_bd h.1.1
  omega

set_option maxHeartbeats 1000000 in
theorem look_any (c e u : Int) (b : Nat) (w : World) (hb0 : b < w.heap.size) (hu : w.cell? ⟨b, 0, none⟩ = some (.int .i64 u)) (hfz : w.frozen? ⟨b, 0, none⟩ = false) :
    Calls Tryz.prog 144 #[.pointer (some ⟨b, 0, none⟩), .agg #[.int .i64 c, .int .i64 e]] w (LookPost (lookS c e u).1 (lookS c e u).2 b w) := by
  have hne : b ≠ w.heap.size := by omega
  have hlt : b < w.heap.size + 1 := by omega
  by_cases hr : wellB c e u = true
  · have hbd := well_bd hr
    have h0 : 0 ≤ c := hbd.1
    have h1 : c ≤ 1000000 := hbd.2.1
    clear hbd
    by_cases huc : u = c
    · subst huc
      have hs : lookS u e u = (0, u) := by simp [lookS, hr]
      rw [hs]
      go_enter Tryz.func144, Tryz.ntmps144
      go_wp2_with fail
      refine (well_any _ _ u _ _ ?_ ?_).mono ?_
      · exact Nat.lt_of_lt_of_le hb0 (by simp)
      · exact (((Below.refl w.heap.size w).alloc (Nat.le_refl _) _).cell (p := ⟨b, 0, none⟩) hb0).trans hu
      rintro e w' ⟨rfl, hb⟩
      obtain ⟨hc, hf⟩ := bcell hb
      have hy : w.heap.size < w'.heap.size := bnext (B := w.heap.size + 1) hb (by first | assumption | simp)
      go_wp2_with fail
      have hlt2 : b < w'.heap.size := by omega
      have hB : Below w.heap.size w w' := ((Below.refl _ _).alloc (Nat.le_refl _) _).trans (hb.mono (by simp))
      have k1 : w'.cell? ⟨b, 0, none⟩ = some (.int .i64 u) := (hB.cell (p := ⟨b, 0, none⟩) hb0).trans hu
      have k2 : w'.frozen? ⟨b, 0, none⟩ = false := (hB.frozen (p := ⟨b, 0, none⟩) hb0).trans hfz
      go_quiet (fail)
      go_wp2
      go_ret
      refine ⟨rfl, ?_, by simp [k1], by simp [k2], by simp [hlt2]⟩
      first | exact below_drewN (hB.mono (Nat.le_of_lt hb0)) _ | exact hB.mono (Nat.le_of_lt hb0)
    · have hs : lookS c e u = (e, c) := by simp [lookS, hr, huc]
      have hn : (u == c) = false := by simpa using huc
      clear huc
      rw [hs]
      go_enter Tryz.func144, Tryz.ntmps144
      go_wp2_with fail
      refine (well_any _ _ u _ _ ?_ ?_).mono ?_
      · exact Nat.lt_of_lt_of_le hb0 (by simp)
      · exact (((Below.refl w.heap.size w).alloc (Nat.le_refl _) _).cell (p := ⟨b, 0, none⟩) hb0).trans hu
      rintro e w' ⟨rfl, hb⟩
      obtain ⟨hc, hf⟩ := bcell hb
      have hy : w.heap.size < w'.heap.size := bnext (B := w.heap.size + 1) hb (by first | assumption | simp)
      go_wp2_with fail
      have hlt2 : b < w'.heap.size := by omega
      have hB : Below w.heap.size w w' := ((Below.refl _ _).alloc (Nat.le_refl _) _).trans (hb.mono (by simp))
      have k1 : w'.cell? ⟨b, 0, none⟩ = some (.int .i64 u) := (hB.cell (p := ⟨b, 0, none⟩) hb0).trans hu
      have k2 : w'.frozen? ⟨b, 0, none⟩ = false := (hB.frozen (p := ⟨b, 0, none⟩) hb0).trans hfz
      go_quiet (fail)
      go_wp2
      go_ret
      refine ⟨rfl, ?_, ?_, ?_, by simp [hlt2]⟩
      · refine Below.setCell (p := ⟨b, 0, none⟩) ?_ (Nat.le_refl b) _
        first | exact below_drewN (hB.mono (Nat.le_of_lt hb0)) _ | exact hB.mono (Nat.le_of_lt hb0)
      · exact World.cell?_setCell_same _ _ _ (u := .int .i64 u) k1
      · rw [World.frozen?_setCell]; exact k2
  · have hr : wellB c e u = false := by simpa using hr
    have hs : lookS c e u = (1, u) := by simp [lookS, hr]
    rw [hs]
    go_enter Tryz.func144, Tryz.ntmps144
    go_wp2_with fail
    refine (well_any _ _ u _ _ ?_ ?_).mono ?_
    · exact Nat.lt_of_lt_of_le hb0 (by simp)
    · exact (((Below.refl w.heap.size w).alloc (Nat.le_refl _) _).cell (p := ⟨b, 0, none⟩) hb0).trans hu
    rintro e w' ⟨rfl, hb⟩
    obtain ⟨hc, hf⟩ := bcell hb
    have hy : w.heap.size < w'.heap.size := bnext (B := w.heap.size + 1) hb (by first | assumption | simp)
    go_wp2_with fail
    go_ret
    have hlt2 : b < w'.heap.size := by omega
    have hB : Below w.heap.size w w' := ((Below.refl _ _).alloc (Nat.le_refl _) _).trans (hb.mono (by simp))
    refine ⟨rfl, hB.mono (by omega), (hB.cell (p := ⟨b, 0, none⟩) hb0).trans hu, (hB.frozen (p := ⟨b, 0, none⟩) hb0).trans hfz, hlt2⟩

set_option maxHeartbeats 1000000 in
theorem check_any (c e u : Int) (w : World) :
    Calls Tryz.prog 139 #[.agg #[.int .i64 c, .int .i64 e], .int .i64 u] w (RetW (.tuple #[.int .i64 (lookS c e u).1, .int .i64 (lookS c e u).2]) w) := by
  go_enter Tryz.func139, Tryz.ntmps139
  go_wp2_with fail
  refine (look_any _ _ u _ _ ?_ ?_ ?_).mono ?_
  · simp
  · simp
  · simp
  rintro e w' ⟨rfl, hb, k1, k2, hlt⟩
  go_wp2_with fail
  go_quiet (fail)
  go_wp2
  go_ret2
  refine RetW.mk rfl ?_
  refine below_drewN ?_ _
  exact (((Below.refl _ _).alloc (Nat.le_refl _) _).alloc (by simp) _).trans (hb.mono (by simp))


def curB (n : Int) : Bool := decide (0 ≤ n ∧ n ≤ 1000000)
theorem cur_look (e n : Int) (he : e ≠ 1) (h0 : e ≠ 0) : (!((lookS 1000000 e n).1 == 1)) = curB n := by
  have hr : rightB 1000000 e = true := by simp [rightB, h0]
  unfold lookS wellB curB
  rw [hr]
  by_cases h1 : 0 ≤ n <;> by_cases h2 : n ≤ 1000000 <;> simp [h1, h2] <;> (try split) <;> simp_all
end Go.Proofs.YtimhaidiclbnhaaGreat.Des
