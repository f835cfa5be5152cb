/- Contracts of layer 19: Diff. -/
import Derived.Test.YtincobjgfclfjaaRead
namespace Go.Proofs.Ytincobjgfclfjaa
open Go.ChangeShapes Go.WideShapes Go.ChangeAt Go.RowKit

def secB (a b : ByteArray) (i : Nat) : Bool := (a.extract (8 * i) (8 * i + 8)).toList == (b.extract (8 * i) (8 * i + 8)).toList
def difL (a b : ByteArray) (k : Nat) : List Int := ((List.range k).filter fun i => !(secB a b i)).map Int.ofNat
theorem difL_zero (a b : ByteArray) : difL a b 0 = [] := rfl
theorem difL_same {a b : ByteArray} {k : Nat} (h : secB a b k = true) : difL a b (k + 1) = difL a b k := by
  unfold difL; rw [List.range_succ, List.filter_append]; simp [h]
theorem difL_more {a b : ByteArray} {k : Nat} (h : secB a b k = false) : difL a b (k + 1) = difL a b k ++ [(k : Int)] := by
  unfold difL; rw [List.range_succ, List.filter_append]; simp [h]
theorem difL_le (a b : ByteArray) (k : Nat) : (difL a b k).length ≤ k := by
  unfold difL; rw [List.length_map]
  have := List.length_filter_le (fun i => !(secB a b i)) (List.range k)
  simpa using this
theorem int_info : (Try.prog.info? 3).map (fun i => (i.zero, i.size, i.bytes)) = some (some (.int .i64 0), 1, 8) := by kernel_rfl

/-- what Diff has gathered after k sectors -/
structure DifInv (a b : ByteArray) (w : World) (k : Nat) (v : Value) (wr : World) : Prop where
  bel : Below w.heap.size w wr
  own : wr.ownsRow w.heap.size 3 1 v (difL a b k).length ((difL a b k).map (Value.int .i64))

def difS (a b : ByteArray) : List Int := if imB a.size = true ∧ imB b.size = true ∧ a.size = b.size then difL a b (a.size / 8) else []
def DifPost (a b : ByteArray) (w : World) (e : Ending) (w' : World) : Prop :=
  ∃ v, e = .returned v ∧ Below w.heap.size w w' ∧ w'.ownsRow w.heap.size 3 1 v (difS a b).length ((difS a b).map (Value.int .i64))

set_option maxHeartbeats 1000000 in
theorem diff_main (a b : ByteArray) (w : World) (ha : a.size ≤ maxLen) (hb : b.size ≤ maxLen) (hia : imB a.size = true) (hib : imB b.size = true) (hab : a.size = b.size) :
    Calls Try.prog 19 #[.string a, .string b] w (DifPost a b w) := by
  have b0 := im_bd hia
  have hs : difS a b = difL a b (a.size / 8) := by unfold difS; rw [if_pos ⟨hia, hib, hab⟩]
  have HS := Lib.hid hs
  have b1 : (a.size : Int) ≤ 1024 := b0.2
  have b2 := Lib.hid b0.1
  have hne : ((a.size : Int) != (b.size : Int)) = false := by rw [hab]; simp
  have HAB := Lib.hid hab
  have b3 : (b.size : Int) ≤ 1024 := by omega
  clear b0 hs hab
  obtain ⟨i0, hi, hz0, hz1, hz2⟩ := info_parts int_info
  go_enter Try.func19, Try.ntmps19
  go_wp2_with ((go_at_call 14; refine (valid_any _ _ (by assumption)).mono ?_; rintro e w' ⟨rfl, rfl⟩))
  go_loopw [5, 6] (fun v i wr => ∃ k p : Nat, k ≤ a.size / 8 ∧ p = 8 * k ∧ i = .int .i64 p ∧ DifInv a b w k v wr) (fun _ i _ => a.size - (intOf i).toNat)
  case atStart => exact ⟨0, 0, Nat.zero_le _, rfl, rfl, ⟨Below.refl _ _, ⟨by simp [difL_zero], Or.inl ⟨rfl, rfl⟩⟩⟩⟩
  case round =>
    obtain ⟨k, p, hk, hp, rfl, hinv⟩ := hrel
    have HB2 := b2.out
    by_cases hlt : k < a.size / 8
    · have c1 : (p : Int) < (a.size : Int) := by omega
      have c2 : (p : Int) + 8 ≤ (a.size : Int) := by omega
      have c3 : (p : Int) + 8 ≤ (b.size : Int) := by have := HAB.out; omega
      have c4 : p ≤ 1024 := by omega
      have hown : ∀ q, (wr.drewN q).ownsRow w.heap.size 3 1 u5 (difL a b k).length ((difL a b k).map (Value.int .i64)) := fun _ => hinv.own
      have hll := difL_le a b k
      have hbz : w.heap.size ≤ wr.heap.size := hinv.bel.size
      have HK := Lib.hid hlt
      cases hc : ((a.extract p (p + 8)).toList == (b.extract p (p + 8)).toList) with
      | true =>
        have hsc : secB a b k = true := by rw [hp] at hc; exact hc
        have HS2 := Lib.hid (difL_same hsc)
        have HP := Lib.hid hp
        clear hlt HB2 hp hsc hown
        go_wp2_with fail
        go_quiet (fail)
        go_wp2_with fail
        go_roundw
        case rel => exact ⟨k + 1, p + 8, HK.out, by have := HP.out; omega, by go_num, ⟨below_drewN hinv.bel _, by rw [HS2.out]; exact hinv.own⟩⟩
        case measure => simp [intOf]; omega
      | false =>
        have hsc : secB a b k = false := by rw [hp] at hc; exact hc
        have HS2 := Lib.hid (difL_more hsc)
        have hpk : (p : Int) / 8 = (k : Int) := by omega
        have HP := Lib.hid hp
        clear hlt HB2 hp hsc
        go_wp2_with fail
        go_quiet (fail)
        go_wp2_with (at_builtin; refine wpList_append_own _ rfl _ _ 28 rfl w.heap.size 3 i0 (.int .i64 0) 1 8 Try.underlying28 hi hz0 hz1 hz2 rfl (by decide) _ _ _ rfl ((hown _).alloc _) ⟨wr.heap.size, 0, none⟩ 1 1 [.int .i64 k] rfl rfl ?c1 ?c2 ?c3 ?c4 ?c5 ?_)
        case c1 => exact cell_one_new _ _ _
        case c2 => intro u hu; simp at hu; subst hu; rfl
        case c3 => unfold maxLen; omega
        case c4 => omega
        case c5 => simp; omega
        intro v' w' hown' hgrow _
        have hbel : Below w.heap.size w w' := ((below_drewN hinv.bel nq).alloc hbz _).grown hgrow (by simp; omega) (fun q hq => (hinv.own.lt q hq).1)
        clear hgrow
        go_wp2_with fail
        go_roundw
        case rel => exact ⟨k + 1, p + 8, HK.out, by have := HP.out; omega, by go_num, ⟨hbel, by rw [HS2.out]; simpa using hown'⟩⟩
        case measure => simp [intOf]; omega
    · obtain rfl : k = a.size / 8 := by omega
      have hpe : p = a.size := by omega
      clear hp HB2 hk
      subst hpe
      go_wp2_with fail
      go_ret
      exact ⟨_, rfl, hinv.bel, by rw [HS.out]; exact hinv.own⟩

theorem difS_no {a b : ByteArray} (h : imB a.size = false ∨ imB b.size = false ∨ ((a.size : Int) != (b.size : Int)) = true) : difS a b = [] := by
  unfold difS; rw [if_neg]
  intro ⟨h1, h2, h3⟩
  rcases h with h | h | h
  · rw [h1] at h; cases h
  · rw [h2] at h; cases h
  · rw [h3] at h; simp at h
theorem DifPost.none {a b : ByteArray} {w w' : World} (h : difS a b = []) (hb : Below w.heap.size w w') : DifPost a b w (.returned (.slice none 0 0)) w' := by
  refine ⟨_, rfl, hb, ?_⟩
  rw [h]; exact ⟨rfl, Or.inl ⟨rfl, rfl⟩⟩

set_option maxHeartbeats 1000000 in
theorem diff_any (a b : ByteArray) (w : World) (ha : a.size ≤ maxLen) (hb : b.size ≤ maxLen) : Calls Try.prog 19 #[.string a, .string b] w (DifPost a b w) := by
  cases hia : imB a.size with
  | false =>
    have HN := Lib.hid (difS_no (a := a) (b := b) (Or.inl hia))
    go_enter Try.func19, Try.ntmps19
    go_wp2_with (go_at_call 14; refine (valid_any _ _ (by assumption)).mono ?_; rintro e w' ⟨rfl, rfl⟩)
    go_ret
    exact DifPost.none HN.out (Below.refl _ _)
  | true =>
    cases hib : imB b.size with
    | false =>
      have HN := Lib.hid (difS_no (a := a) (b := b) (Or.inr (Or.inl hib)))
      go_enter Try.func19, Try.ntmps19
      go_wp2_with (go_at_call 14; refine (valid_any _ _ (by assumption)).mono ?_; rintro e w' ⟨rfl, rfl⟩)
      go_ret
      exact DifPost.none HN.out (Below.refl _ _)
    | true =>
      cases hab : ((a.size : Int) != (b.size : Int)) with
      | true =>
        have HN := Lib.hid (difS_no (a := a) (b := b) (Or.inr (Or.inr hab)))
        go_enter Try.func19, Try.ntmps19
        go_wp2_with (go_at_call 14; refine (valid_any _ _ (by assumption)).mono ?_; rintro e w' ⟨rfl, rfl⟩)
        go_ret
        exact DifPost.none HN.out (Below.refl _ _)
      | false => exact diff_main a b w ha hb hia hib (by simp at hab; omega)
end Go.Proofs.Ytincobjgfclfjaa
