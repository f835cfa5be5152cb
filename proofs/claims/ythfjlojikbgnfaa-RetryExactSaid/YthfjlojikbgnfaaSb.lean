/- The document's comparisons of bunches and of lists, where both sides say the same. -/
import Derived.Test.YthfjlojikbgnfaaLt
namespace Go.Proofs.Ythfjlojikbgnfaa
open Go.ChangeShapes Go.WideShapes Go.ChangeAt Go.RowKit

theorem RowOf.mb {w : World} {a : Option Addr} {n cap : Nat} {M : List Mb} (h : RowOf w a n cap (mflat M) ∨ n = 0 ∧ cap = 0) (hn : M.length = n) (i : Nat) (hi : i < n) :
    ∃ g o, a = some ⟨g, o, none⟩ ∧ (n : Int) ≤ cap ∧ g < w.heap.size ∧ ∃ m : Mb, M[i]? = some m ∧ w.cell? ⟨g, o + i * 3, none⟩ = some (.int .i64 m.id) ∧ w.cell? ⟨g, o + i * 3 + 1, none⟩ = some (.int .i64 m.fo) ∧ w.cell? ⟨g, o + i * 3 + 2, none⟩ = some (.int .i64 m.ct) := by
  rcases h with (⟨_, h, _⟩ | ⟨g, o, rfl, h1, h2, h3, h4⟩) | ⟨h, _⟩
  · omega
  · have hi2 : i < M.length := by omega
    have key : ∀ j v, j < 3 → M[i].cells[j]? = some v → w.cell? ⟨g, o + i * 3 + j, none⟩ = some v := fun j v hj hv => by
      rw [Nat.add_assoc]
      exact h4 _ v (by rw [mflat_at M i hi2 j hj]; exact hv)
    exact ⟨g, o, rfl, by omega, h1, M[i], List.getElem?_eq_getElem hi2, key 0 _ (by omega) rfl, key 1 _ (by omega) rfl, key 2 _ (by omega) rfl⟩
  · omega

theorem below_drewN {B : Nat} {w W : World} (h : Below B w W) (j : Nat) : Below B w (W.drewN j) := ⟨h.os, h.tape, h.output, h.size, h.block⟩
set_option maxHeartbeats 4000000 in
theorem sameB_any (a : Ar) (q : Option Addr) (c : Nat) (w : World) (h1 : MemOK w a) (h2 : MemOK w (a.moved q c)) :
    Calls Try.prog 25 #[bVal a, bVal (a.moved q c)] w (RetW (.bool true) w) := by
  obtain ⟨W0, hW0⟩ : ∃ W0, W0 = (w.alloc (Obj.cells a.bcells.toArray 38)).alloc (Obj.cells (a.moved q c).bcells.toArray 38) := ⟨_, rfl⟩
  have hA0 : At W0 w.heap.size a.bcells := by rw [hW0]; exact (At.new w a.bcells 38).alloc _
  have hB0 : At W0 (w.heap.size + 1) (a.moved q c).bcells := by rw [hW0]; exact (At.new (w.alloc (Obj.cells a.bcells.toArray 38)) (a.moved q c).bcells 38).cast (by simp)
  have hb0 : Below w.heap.size w W0 := by rw [hW0]; exact ((Below.refl _ w).alloc (Nat.le_refl _) _).alloc (by simp) _
  have h1' := h1.below hb0
  have h2' := h2.below hb0
  have HM : Hid (∀ i, i < a.ml → ∃ g o g' o', a.ma = some ⟨g, o, none⟩ ∧ q = some ⟨g', o', none⟩ ∧ (a.ml : Int) ≤ a.mc ∧ (a.ml : Int) ≤ c ∧ ∃ m : Mb,
      (W0.cell? ⟨g, o + i * 3, none⟩ = some (.int .i64 m.id) ∧ W0.cell? ⟨g, o + i * 3 + 1, none⟩ = some (.int .i64 m.fo) ∧ W0.cell? ⟨g, o + i * 3 + 2, none⟩ = some (.int .i64 m.ct)) ∧
      (W0.cell? ⟨g', o' + i * 3, none⟩ = some (.int .i64 m.id) ∧ W0.cell? ⟨g', o' + i * 3 + 1, none⟩ = some (.int .i64 m.fo) ∧ W0.cell? ⟨g', o' + i * 3 + 2, none⟩ = some (.int .i64 m.ct))) := by
    intro i hi
    obtain ⟨g, o, e1, e2, _, m, hm, k1⟩ := RowOf.mb h1'.2.2 h1'.1 i hi
    obtain ⟨g', o', e1', e2', _, m', hm', k1'⟩ := RowOf.mb h2'.2.2 h2'.1 i hi
    have : m' = m := by
      have := hm'.symm.trans hm
      exact Option.some.inj this
    subst this
    exact ⟨g, o, g', o', e1, e1', e2, e2', m', k1, k1'⟩
  have HML : Hid (a.ml ≤ 5864062014805) := h1.2.1
  clear h1 h2 h1' h2'
  have a0 := hA0.cell 0 _ rfl; have a1 := hA0.cell 1 _ rfl; have a2 := hA0.cell 2 _ rfl; have a3 := hA0.cell 3 _ rfl; have a4 := hA0.cell 4 _ rfl; have a5 := hA0.cell 5 _ rfl; have a6 := hA0.cell 6 _ rfl; have a7 := hA0.cell 7 _ rfl; have a8 := hA0.cell 8 _ rfl
  have b0 := hB0.cell 0 _ rfl; have b1 := hB0.cell 1 _ rfl; have b2 := hB0.cell 2 _ rfl; have b3 := hB0.cell 3 _ rfl; have b4 := hB0.cell 4 _ rfl; have b5 := hB0.cell 5 _ rfl; have b6 := hB0.cell 6 _ rfl; have b7 := hB0.cell 7 _ rfl; have b8 := hB0.cell 8 _ rfl
  have HB := Lib.hid hb0
  clear hA0 hB0 hb0
  unfold bVal
  obtain ⟨id, ten, kd, sec, cnt, dat, fua, ma, ml, mc, tm, tk, tr, mem⟩ := a
  simp only [Ar.moved] at *
  simp only [Ar.bcells] at hW0
  go_enter Try.func25, Try.ntmps25
  go_upto_region 1 with (fail)
  rw [← hW0]
  clear hW0
  go_wp2_with fail
  go_loopw [5] (fun v5 wr => ∃ k : Nat, k ≤ ml ∧ v5 = .int .i64 k ∧ ∃ j : Nat, wr = W0.drewN j) (fun v5 _ => 6000000000000 - (intOf v5).toNat)
  case atStart => exact ⟨0, Nat.zero_le _, rfl, 0, rfl⟩
  case round =>
    obtain ⟨k, hk, rfl, j, rfl⟩ := hrel
    have hml := HML.out
    by_cases hlt : k < ml
    · have hlt' : (k : Int) < (ml : Int) := by omega
      obtain ⟨g, o, g', o', rfl, rfl, hc1, hc2, m, ⟨m0, m1, m2⟩, ⟨n0, n1, n2⟩⟩ := HM.out k hlt
      go_upto_region 6 with (fail)
      go_quiet (fail)
      go_wp2_with fail
      go_roundw
      case rel => exact ⟨k + 1, by omega, by go_num, _, by first | rfl | trivial⟩
      case measure => simp [intOf]; omega
    · obtain rfl : k = ml := by omega
      go_wp2_with fail
      go_ret
      exact RetW.mk rfl (below_drewN HB.out j)
end Go.Proofs.Ythfjlojikbgnfaa
