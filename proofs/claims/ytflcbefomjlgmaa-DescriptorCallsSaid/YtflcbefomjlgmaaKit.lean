/- Small words that all texts of this seat share: a returned value over a world in which nothing old has changed. -/
import Derived.Test.YtflcbefomjlgmaaRows
import Derived.WalkKit
import Derived.ProofKit
import Derived.OpenShut
import Derived.WalkSmall
import Derived.WalkLawsBesides
import Derived.WalkSpells
import Derived.Lib.Hide
import Derived.StillTailTactics
import Derived.Deep.QuietTactic
import Derived.BigQuiet
import Derived.Deep.RegionWith
import Derived.Deep.RegionHeld3
import Derived.Deep.DeepCutAuto
set_option linter.unusedSimpArgs false
set_option linter.unusedVariables false
namespace Go.Proofs.Ytflcbefomjlgmaa
open Go.ChangeShapes Go.WideShapes Go.ChangeAt Go.RowKit

def RetW (v : Value) (w : World) (e : Ending) (w' : World) : Prop := e = .returned v ∧ Below w.heap.size w w'
theorem RetW.mk {v v' : Value} {w w' : World} (h : v' = v) (hb : Below w.heap.size w w') : RetW v w (.returned v') w' := ⟨by rw [h], hb⟩
theorem bcell {W w1 : World} (hb : Below W.heap.size W w1) : (∀ b o, b < W.heap.size → w1.cell? ⟨b, o, none⟩ = W.cell? ⟨b, o, none⟩) ∧ (∀ b o, b < W.heap.size → w1.frozen? ⟨b, o, none⟩ = W.frozen? ⟨b, o, none⟩) :=
  ⟨fun b o h => hb.cell (p := ⟨b, o, none⟩) h, fun b o h => hb.frozen (p := ⟨b, o, none⟩) h⟩
theorem bnext {W w1 : World} {B : Nat} (hb : Below W.heap.size W w1) (hB : B ≤ W.heap.size) : B ≤ w1.heap.size := Nat.le_trans hB hb.size
theorem ret_int {k : IntKind} {a b : Int} (h : a = b) : Ending.returned (.int k a) = .returned (.int k b) := by rw [h]
theorem ret_str {a b : ByteArray} (h : a = b) : Ending.returned (.string a) = .returned (.string b) := by rw [h]

/-- n modulo m, n taken as 64 bits without a sign -/
def rnd (n m : Int) : Int := (n % 18446744073709551616) % m
theorem rnd_lo (n m : Int) (hm : 1 ≤ m) : 0 ≤ rnd n m := Int.emod_nonneg _ (by omega)
theorem rnd_hi (n m : Int) (hm : 1 ≤ m) : rnd n m < m := Int.emod_lt_of_pos _ (by omega)
theorem rnd_eq (n m : Int) (hm : 1 ≤ m) (hm2 : m ≤ 1000000) : wrap64 ((IntKind.u64.wrap n).tmod m) = rnd n m := by
  have e : IntKind.u64.wrap n = n % 18446744073709551616 := rfl
  have h0 : 0 ≤ n % 18446744073709551616 := Int.emod_nonneg _ (by omega)
  rw [e, Int.tmod_eq_emod_of_nonneg h0]
  have := rnd_lo n m hm; have := rnd_hi n m hm
  unfold rnd at *
  exact IntWalk.wrap64_in _ (by omega)
theorem rnd_eq' (n m : Int) (hm : 1 ≤ m) (hm2 : m ≤ 1000000) : wrap64 ((IntKind.u64.wrap n).tmod (IntKind.u64.wrap m)) = rnd n m := by
  have e : IntKind.u64.wrap m = m := by show m % 18446744073709551616 = m; omega
  rw [e]; exact rnd_eq n m hm hm2
set_option maxHeartbeats 400000 in
theorem cut_any (n m : Int) (w : World) (hm : 1 ≤ m) (hm2 : m ≤ 1000000) :
    Calls Try.prog 30 #[.int .i64 n, .int .i64 m] w fun e w' => e = .returned (.int .i64 (rnd n m)) ∧ w = w' := by
  go_enter Try.func30, Try.ntmps30
  go_wp2
  go_ret
  exact ⟨ret_int (by first | exact rnd_eq n m hm hm2 | exact rnd_eq' n m hm hm2), rfl⟩
theorem cut_some (n m : Int) (w : World) (hm : 1 ≤ m) (hm2 : m ≤ 1000000) :
    Calls Try.prog 30 #[.int .i64 n, .int .i64 m] w fun e w' => ∃ r : Int, 0 ≤ r ∧ r < m ∧ e = .returned (.int .i64 r) ∧ w = w' :=
  (cut_any n m w hm hm2).mono fun e w' h => ⟨rnd n m, rnd_lo n m hm, rnd_hi n m hm, h⟩

/-- a world put behind a name, with one fact about it kept; 'HW.out' gives it back -/
theorem gen_w1 {p : World → Prop} {W : World} {a : Addr} {v : Value} (h1 : W.cell? a = some v) (h : ∀ W', Hid (W = W') → W'.cell? a = some v → p W') : p W := h W rfl h1
theorem gen_w0 {p : World → Prop} {W : World} (h : ∀ W', Hid (W = W') → p W') : p W := h W rfl
/-- the cells of a block that was laid as C -/
theorem cells_new {w w1 : World} {B : Nat} {C : Array Value} {T : TypeId} (hb : Below B (w.alloc (.cells C T)) w1) (hB : w.heap.size < B) (j : Nat) : w1.cell? ⟨w.heap.size, j, none⟩ = C[j]? :=
  (hb.cell (p := ⟨w.heap.size, j, none⟩) hB).trans (World.cell?_alloc_mark w C T (0, 0) j)
theorem cells_new2 {w w1 : World} {B : Nat} {C : Array Value} {T : TypeId} {o : Obj} (hb : Below B ((w.alloc (.cells C T)).alloc o) w1) (hB : w.heap.size < B) (j : Nat) : w1.cell? ⟨w.heap.size, j, none⟩ = C[j]? :=
  ((hb.cell (p := ⟨w.heap.size, j, none⟩) hB).trans (World.cell?_alloc_lt _ _ _ (by simp))).trans (World.cell?_alloc_mark w C T (0, 0) j)
/-- behind wc there is a new block g with two cells, and nothing older has changed -/
structure New2 (wc wx : World) (g : Nat) (a b : Value) : Prop where
  bel : Below wc.heap.size wc wx
  lo : wc.heap.size ≤ g
  hi : g < wx.heap.size
  c0 : wx.cell? ⟨g, 0, none⟩ = some a
  c1 : wx.cell? ⟨g, 1, none⟩ = some b
end Go.Proofs.Ytflcbefomjlgmaa
