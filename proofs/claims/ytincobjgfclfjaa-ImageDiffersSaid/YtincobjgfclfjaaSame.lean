/- Contracts of layer 19: the reference's Diff, and same. -/
import Derived.Test.YtincobjgfclfjaaDiff
import Derived.Test.YtincobjgfclfjaaAwake
namespace Go.Proofs.Ytincobjgfclfjaa
open Go.ChangeShapes Go.WideShapes Go.ChangeAt Go.RowKit

theorem sec_read {a : ByteArray} {k : Nat} (h : 8 * k + 8 ≤ a.size) (hi : imB a.size = true) : readS a (k : Int) 1 = (a.extract (8 * k) (8 * k + 8), true) := by
  have hb := im_bd hi
  unfold readS
  rw [if_pos (ok_mk (by omega))]
  rw [show ((k : Int) * 8).toNat = 8 * k from by omega, show (((k : Int) + 1) * 8).toNat = 8 * k + 8 from by omega]

set_option maxHeartbeats 1000000 in
theorem rdiff_main (a b : ByteArray) (w : World) (ha : a.size ≤ maxLen) (hb : b.size ≤ maxLen) (hia : imB a.size = true) (hib : imB b.size = true) (hab : a.size = b.size) :
    Calls Try.prog 20 #[.string a, .string b] w (DifPost a b w) := by
  have b0 := im_bd hia
  have hs : difS a b = difL a b (a.size / 8) := by unfold difS; rw [if_pos ⟨hia, hib, hab⟩]
  have HS := Lib.hid hs
  have b1 : (a.size : Int) ≤ 1024 := b0.2
  have b2 := Lib.hid b0.1
  have hne : ((a.size : Int) != (b.size : Int)) = false := by rw [hab]; simp
  have HAB := Lib.hid hab
  have b3 : (b.size : Int) ≤ 1024 := by omega
  clear b0 hs hab
  obtain ⟨i0, hi, hz0, hz1, hz2⟩ := info_parts int_info
  go_enter Try.func20, Try.ntmps20
  go_wp2_with (go_at_call 15; refine (image_any _ _ (by assumption)).mono ?_; rintro e w' ⟨rfl, rfl⟩)
  go_loopw [5, 6] (fun v i wr => ∃ k : Nat, k ≤ a.size / 8 ∧ i = .int .i64 k ∧ DifInv a b w k v wr) (fun _ i _ => a.size / 8 - (intOf i).toNat)
  case atStart => exact ⟨0, Nat.zero_le _, rfl, ⟨Below.refl _ _, ⟨by simp [difL_zero], Or.inl ⟨rfl, rfl⟩⟩⟩⟩
  case round =>
    obtain ⟨k, hk, rfl, hinv⟩ := hrel
    by_cases hlt : k < a.size / 8
    · have hra := sec_read (a := a) (k := k) (by omega) hia
      have hrb := sec_read (a := b) (k := k) (by have := HAB.out; omega) hib
      have hown : ∀ q, (wr.drewN q).ownsRow w.heap.size 3 1 u5 (difL a b k).length ((difL a b k).map (Value.int .i64)) := fun _ => hinv.own
      have hll := difL_le a b k
      have hbz : w.heap.size ≤ wr.heap.size := hinv.bel.size
      have HK := Lib.hid hlt
      have c1 : (k : Int) < (a.size : Int) / 8 := by omega
      have c2 : k ≤ 1024 := by omega
      have hsec : secB a b k = ((a.extract (8 * k) (8 * k + 8)).toList == (b.extract (8 * k) (8 * k + 8)).toList) := rfl
      generalize a.extract (8 * k) (8 * k + 8) = sa at hra hsec
      generalize b.extract (8 * k) (8 * k + 8) = sb at hrb hsec
      have HRA := Lib.hid hra; have HRB := Lib.hid hrb
      cases hc : (sa.toList == sb.toList) with
      | true =>
        have HS2 := Lib.hid (difL_same (hsec.trans hc))
        clear hlt hk hra hrb hsec hown
        go_wp2_with fail
        refine (rread_any _ _ _ _ ha).mono ?_; rintro e w' ⟨rfl, rfl⟩
        rw [HRA.out]
        go_wp2_with fail
        refine (rread_any _ _ _ _ hb).mono ?_; rintro e w' ⟨rfl, rfl⟩
        rw [HRB.out]
        go_wp2_with fail
        go_roundw
        case rel => exact ⟨k + 1, HK.out, by go_num, ⟨hinv.bel, by rw [HS2.out]; exact hinv.own⟩⟩
        case measure => have := HK.out; simp [intOf]; omega
      | false =>
        have HS2 := Lib.hid (difL_more (hsec.trans hc))
        clear hlt hk hra hrb hsec
        go_wp2_with fail
        refine (rread_any _ _ _ _ ha).mono ?_; rintro e w' ⟨rfl, rfl⟩
        rw [HRA.out]
        go_wp2_with fail
        refine (rread_any _ _ _ _ hb).mono ?_; rintro e w' ⟨rfl, rfl⟩
        rw [HRB.out]
        go_wp2_with (at_builtin; refine wpList_append_own _ rfl _ _ 28 rfl w.heap.size 3 i0 (.int .i64 0) 1 8 Try.underlying28 hi hz0 hz1 hz2 rfl (by decide) _ _ _ rfl (hinv.own.alloc _) ⟨wr.heap.size, 0, none⟩ 1 1 [.int .i64 k] rfl rfl ?c1 ?c2 ?c3 ?c4 ?c5 ?_)
        case c1 => exact cell_one_new _ _ _
        case c2 => intro u hu; simp at hu; subst hu; rfl
        case c3 => unfold maxLen; omega
        case c4 => omega
        case c5 => simp; omega
        intro v' w' hown' hgrow _
        have hbel : Below w.heap.size w w' := (hinv.bel.alloc hbz _).grown hgrow (by simp; omega) (fun q hq => (hinv.own.lt q hq).1)
        clear hgrow
        go_wp2_with fail
        go_roundw
        case rel => exact ⟨k + 1, HK.out, by go_num, ⟨hbel, by rw [HS2.out]; simpa using hown'⟩⟩
        case measure => have := HK.out; simp [intOf]; omega
    · obtain rfl : k = a.size / 8 := by omega
      clear hk
      go_wp2_with fail
      go_ret
      exact ⟨_, rfl, hinv.bel, by rw [HS.out]; exact hinv.own⟩

set_option maxHeartbeats 1000000 in
theorem rdiff_any (a b : ByteArray) (w : World) (ha : a.size ≤ maxLen) (hb : b.size ≤ maxLen) : Calls Try.prog 20 #[.string a, .string b] w (DifPost a b w) := by
  cases hia : imB a.size with
  | false =>
    have HN := Lib.hid (difS_no (a := a) (b := b) (Or.inl hia))
    go_enter Try.func20, Try.ntmps20
    go_wp2_with (go_at_call 15; refine (image_any _ _ (by assumption)).mono ?_; rintro e w' ⟨rfl, rfl⟩)
    go_ret
    exact DifPost.none HN.out (Below.refl _ _)
  | true =>
    cases hib : imB b.size with
    | false =>
      have HN := Lib.hid (difS_no (a := a) (b := b) (Or.inr (Or.inl hib)))
      go_enter Try.func20, Try.ntmps20
      go_wp2_with (go_at_call 15; refine (image_any _ _ (by assumption)).mono ?_; rintro e w' ⟨rfl, rfl⟩)
      go_ret
      exact DifPost.none HN.out (Below.refl _ _)
    | true =>
      cases hab : ((a.size : Int) != (b.size : Int)) with
      | true =>
        have HN := Lib.hid (difS_no (a := a) (b := b) (Or.inr (Or.inr hab)))
        go_enter Try.func20, Try.ntmps20
        go_wp2_with (go_at_call 15; refine (image_any _ _ (by assumption)).mono ?_; rintro e w' ⟨rfl, rfl⟩)
        go_ret
        exact DifPost.none HN.out (Below.refl _ _)
      | false => exact rdiff_main a b w ha hb hia hib (by simp at hab; omega)

/-- the cells of an owned row of integers -/
theorem own_cell {w : World} {base : Nat} {a : Option Addr} {n c : Nat} {xs : List Int} (h : w.ownsRow base 3 1 (.slice a n c) xs.length (xs.map (Value.int .i64))) (k : Nat) (hk : k < xs.length) :
    ∃ g, a = some ⟨g, 0, none⟩ ∧ w.cell? ⟨g, k, none⟩ = some (.int .i64 (xs.getD k 0)) := by
  rcases h.2 with ⟨h1, h2⟩ | ⟨g, cap, cur, h1, _⟩
  · omega
  · simp only [Value.slice.injEq] at h1
    obtain ⟨rfl, rfl, rfl⟩ := h1
    refine ⟨g, rfl, ?_⟩
    have := h.cells (g := g) rfl k (.int .i64 (xs.getD k 0)) (by simp [List.getD, List.getElem?_map, List.getElem?_eq_getElem hk])
    have e : (⟨g, 0, none⟩ : Addr).add k = ⟨g, k, none⟩ := by unfold Addr.add; split <;> simp_all
    rwa [e] at this

set_option maxHeartbeats 1000000 in
theorem same_any (v1 v2 : Value) (xs : List Int) (B1 B2 : Nat) (w : World) (hx : xs.length ≤ 1000000) (h1 : w.ownsRow B1 3 1 v1 xs.length (xs.map (Value.int .i64))) (h2 : w.ownsRow B2 3 1 v2 xs.length (xs.map (Value.int .i64))) :
    Calls Try.prog 18 #[v1, v2] w (RetW (.bool true) w) := by
  obtain ⟨a1, c1, rfl⟩ := own_slice h1
  obtain ⟨a2, c2, rfl⟩ := own_slice h2
  go_enter Try.func18, Try.ntmps18
  go_wp2_with fail
  go_loopw [5] (fun i wr => ∃ k q : Nat, k ≤ xs.length ∧ i = .int .i64 k ∧ wr = w.drewN q) (fun i _ => xs.length - (intOf i).toNat)
  case atStart => exact ⟨0, 0, Nat.zero_le _, rfl, rfl⟩
  case round =>
    obtain ⟨k, q, hk, rfl, rfl⟩ := hrel
    by_cases hlt : k < xs.length
    · obtain ⟨g1, rfl, e1⟩ := own_cell h1 k hlt
      obtain ⟨g2, rfl, e2⟩ := own_cell h2 k hlt
      have c3 : (k : Int) < (xs.length : Int) := by omega
      generalize xs.getD k 0 = z at e1 e2
      have HK := Lib.hid hlt
      clear hlt h1 h2 hk
      go_wp2_with fail
      go_quiet (fail)
      go_wp2_with fail
      go_roundw
      case rel => exact ⟨k + 1, _, HK.out, by go_num, rfl⟩
      case measure => have := HK.out; simp [intOf]; omega
    · obtain rfl : k = xs.length := by omega
      clear h1 h2 hk
      go_wp2_with fail
      go_ret
      exact RetW.mk rfl (below_drewN (Below.refl _ _) _)
end Go.Proofs.Ytincobjgfclfjaa
