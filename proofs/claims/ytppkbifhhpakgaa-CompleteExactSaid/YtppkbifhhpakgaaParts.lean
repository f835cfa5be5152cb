/- parts of layer 35: a read cut into parts. -/
import Derived.Test.YtppkbifhhpakgaaArgs
import Derived.Test.YtppkbifhhpakgaaData
namespace Go.Proofs.Ytppkbifhhpakgaa
open Go.ChangeShapes Go.WideShapes Go.ChangeAt Go.RowKit

structure Prt where
  off : Int
  cnt : Int
  err : Int
  dat : ByteArray
def Prt.cells (p : Prt) : List Value := [.int .i64 p.off, .int .i64 p.cnt, .int .i64 p.err, .string p.dat]
def flat (xs : List Prt) : List Value := xs.flatMap Prt.cells
theorem flat_snoc (xs : List Prt) (p : Prt) : flat (xs ++ [p]) = flat xs ++ p.cells := by simp [flat]
theorem flat_len (xs : List Prt) : (flat xs).length = xs.length * 4 := by
  induction xs with
  | nil => rfl
  | cons p r ih => simp [flat, Prt.cells] at ih ⊢; omega
def Good (p : Prt) : Prop := 0 ≤ p.off ∧ 1 ≤ p.cnt ∧ p.cnt ≤ 8 ∧ ((p.err = 0 ∧ (p.dat.size : Int) = 8 * p.cnt) ∨ ((p.err = 10 ∨ p.err = 50 ∨ p.err = 11) ∧ p.dat = ⟨#[]⟩))
/-- the parts lie one behind the other, from s to e -/
def Chain (s : Int) : List Prt → Int → Prop
  | [], e => s = e
  | p :: r, e => p.off = s ∧ Good p ∧ Chain (s + p.cnt) r e
theorem Chain.snoc {s e : Int} {p : Prt} (hg : Good p) (hp : p.off = e) : ∀ {xs : List Prt}, Chain s xs e → Chain s (xs ++ [p]) (e + p.cnt)
  | [], h => by
    have h : s = e := h
    exact ⟨by omega, hg, by show s + p.cnt = e + p.cnt; omega⟩
  | q :: r, h => ⟨h.1, h.2.1, Chain.snoc hg hp h.2.2⟩
theorem Chain.len {s e : Int} : ∀ {xs : List Prt}, Chain s xs e → (xs.length : Int) ≤ e - s
  | [], h => by
    have h : s = e := h
    simp; omega
  | q :: r, h => by
    have := Chain.len h.2.2
    have := h.2.1.2.1
    simp; omega
theorem prt_info : (Try.prog.info? 39).map (fun i => (i.zero, i.size, i.bytes)) = some (some (.agg #[.int .i64 0, .int .i64 0, .int .i64 0, .string ⟨#[]⟩]), 4, 40) := by kernel_rfl
theorem cell_four_new (w : World) (a b c d : Value) (t : TypeId) : ∀ j u, [a, b, c, d][j]? = some u → (w.alloc (.cells #[a, b, c, d] t)).cell? ((⟨w.heap.size, 0, none⟩ : Addr).add j) = some u := by
  intro j u h
  have e : (⟨w.heap.size, 0, none⟩ : Addr).add j = ⟨w.heap.size, j, none⟩ := by unfold Addr.add; split <;> simp_all
  rw [e, World.cell?_alloc_mark w _ t (0, 0) j]
  simpa using h

theorem cell_four_at (w : World) (g : Nat) (hg : w.heap.size = g) (a b c d : Value) (t : TypeId) : ∀ j u, [a, b, c, d][j]? = some u → (w.alloc (.cells #[a, b, c, d] t)).cell? ((⟨g, 0, none⟩ : Addr).add j) = some u := by
  subst hg; exact cell_four_new w a b c d t

theorem data_int (n c : Int) (w : World) (h0 : 0 ≤ c) (h1 : c ≤ 1000) : Calls Try.prog 21 #[.int .i64 n, .int .i64 c] w (RetW (.string (dataS n c.toNat)) w) := by
  obtain ⟨k, rfl⟩ := Int.eq_ofNat_of_zero_le h0
  exact data_any n k w (by omega)
theorem round_int (n m : Int) (w : World) (hm : 1 ≤ m) (hm2 : m ≤ 1000000) : Calls Try.prog 14 #[.int .i64 n, .int .i64 m] w fun e w' => ∃ r : Int, 0 ≤ r ∧ r < m ∧ e = .returned (.int .i64 r) ∧ w = w' := round_some n m w hm hm2

theorem own_below {w w' : World} {base B : Nat} {e : TypeId} {size : Nat} {v : Value} {n : Nat} {xs : List Value} (h : w.ownsRow base e size v n xs) (hb : Below B w w') (hB : w.heap.size ≤ B) : w'.ownsRow base e size v n xs := by
  obtain ⟨h1, h2⟩ := h
  refine ⟨h1, ?_⟩
  rcases h2 with h2 | ⟨g, cap, cur, hv, hg, hh, r⟩
  · exact Or.inl h2
  · refine Or.inr ⟨g, cap, cur, hv, hg, ?_, r⟩
    have hlt : g < w.heap.size := by
      rcases Nat.lt_or_ge g w.heap.size with h | h
      · exact h
      · rw [Array.getElem?_eq_none h] at hh; cases hh
    rw [hb.block g (by omega)]; exact hh
/-- what parts has gathered -/
structure PrtInv (w : World) (at_ : Int) (xs : List Prt) (v : Value) (wr : World) : Prop where
  bel : Below w.heap.size w wr
  own : wr.ownsRow w.heap.size 39 4 v xs.length (flat xs)
  chain : Chain 0 xs at_
def PartsPost (count : Int) (w : World) (e : Ending) (w' : World) : Prop :=
  ∃ v xs, e = .returned v ∧ PrtInv w count xs v w'

set_option maxRecDepth 100000 in
set_option maxHeartbeats 4000000 in
theorem parts_any (count : Int) (a : Option Addr) (len cap : Nat) (w : World) (h0 : 1 ≤ count) (h1 : count ≤ 8) (ha : ArgRow w a len) (hl : len ≤ maxLen) :
    Calls Try.prog 15 #[.int .i64 count, .slice a len cap] w (PartsPost count w) := by
  unfold maxLen at hl
  obtain ⟨i0, hi, hz0, hz1, hz2⟩ := info_parts prt_info
  go_enter Try.func15, Try.ntmps15
  go_wp2_with fail
  go_loopw [5, 6, 7] (fun v t i wr => ∃ (k : Nat) (s : Int) (xs : List Prt), k ≤ len ∧ i = .int .i64 k ∧ t = .int .i64 s ∧ 0 ≤ s ∧ s ≤ count ∧ PrtInv w s xs v wr) (fun _ _ i _ => len - (intOf i).toNat)
  case atStart => exact ⟨0, 0, [], Nat.zero_le _, rfl, rfl, by omega, by omega, ⟨Below.refl _ _, ⟨rfl, Or.inl ⟨rfl, rfl⟩⟩, rfl⟩⟩
  case round =>
    obtain ⟨k, s, xs, hk, rfl, rfl, hs0, hs1, hinv⟩ := hrel
    have hbz : w.heap.size ≤ wr.heap.size := hinv.bel.size
    have hxl := hinv.chain.len
    by_cases hlt : k < len
    · by_cases hsc : s < count
      · obtain ⟨b, o, z, rfl, hblt, hz⟩ := ha.at hinv.bel k hlt
        have HK := Lib.hid hlt
        have c1 : (k : Int) < (len : Int) := by omega
        clear hlt hk
        go_wp2_with fail
        all_goals
          refine (round_int _ _ _ (by omega) (by omega)).mono ?_; rintro e w' ⟨r, hr0, hr1, rfl, rfl⟩
          have n0 : 1 ≤ 1 + r := by omega
          have n1 : 1 + r ≤ 3 := by omega
          have n2 : s + (1 + r) ≤ count := by omega
          go_wp2_with fail
          refine (data_int _ _ _ (by omega) (by omega)).mono ?_; rintro e w1 ⟨rfl, hb1⟩
          have hds := dataS_size (z / 8) (1 + r).toNat
          generalize dataS (z / 8) (1 + r).toNat = d at hds ⊢
          have HDS : Hid ((d.size : Int) = 8 * (1 + r)) := by show _ = _; omega
          have hbel : Below w.heap.size w w1 := hinv.bel.trans (hb1.mono hbz)
          have hown : w1.ownsRow w.heap.size 39 4 u5 xs.length (flat xs) := own_below hinv.own hb1 (Nat.le_refl _)
          obtain ⟨b', o', z', hbb, _, hz1'⟩ := ha.at hbel k HK.out
          obtain ⟨rfl, rfl⟩ : b = b' ∧ o = o' := by simpa using hbb
          have hbz1 := hbel.size
          have hbl1 : b < w1.heap.size := Nat.lt_of_lt_of_le hblt hbz1
          have hbn1 : b ≠ w1.heap.size := Nat.ne_of_lt hbl1
          clear hds hz hbb
          go_wp2_with fail
          refine (round_int _ _ _ (by omega) (by omega)).mono ?_; rintro e w' ⟨r2, hq0, hq1, rfl, rfl⟩
          have hbn2 : b ≠ w1.heap.size + 1 := by omega
          cases hr2 : (r2 == 0) with
          | false =>
            go_wp2_with (at_builtin; refine wpList_append_own _ rfl _ _ 36 rfl w.heap.size 39 i0 (.agg #[.int .i64 0, .int .i64 0, .int .i64 0, .string ⟨#[]⟩]) 4 40 Try.underlying36 hi hz0 hz1 hz2 rfl (by decide) _ _ _ rfl ((hown.alloc _).alloc _) ⟨w1.heap.size + 1, 0, none⟩ 1 1 [.int .i64 s, .int .i64 (1 + r), .int .i64 0, .string d] rfl rfl ?c1 ?c2 ?c3 ?c4 ?c5 ?_)
            case c1 => exact cell_four_at _ _ (by simp) _ _ _ _ _
            case c2 => intro u hu; simp at hu; rcases hu with rfl | rfl | rfl | rfl <;> rfl
            case c3 => unfold maxLen; omega
            case c4 => omega
            case c5 => simp; omega
            intro v' w' hown' hgrow _
            have hbel' : Below w.heap.size w w' := ((hbel.alloc hbz1 _).alloc (by simp; omega) _).grown hgrow (by simp; omega) (fun q hq => (hown.lt q hq).1)
            have hchain := Chain.snoc (p := ⟨s, 1 + r, 0, d⟩) ⟨hs0, n0, (by show 1 + r ≤ 8; omega), Or.inl ⟨rfl, HDS.out⟩⟩ rfl hinv.chain
            have hownp : w'.ownsRow w.heap.size 39 4 v' (xs ++ [(⟨s, 1 + r, 0, d⟩ : Prt)]).length (flat (xs ++ [(⟨s, 1 + r, 0, d⟩ : Prt)])) := by
              rw [flat_snoc, List.length_append]; exact hown'
            clear hgrow hown'
            go_wp2_with fail
            go_roundw
            case rel => exact ⟨k + 1, s + (1 + r), _, HK.out, by go_num, rfl, by omega, by omega, ⟨hbel', hownp, hchain⟩⟩
            case measure => have := HK.out; simp [intOf]; omega
          | true =>
            go_wp2_with fail
            refine (round_int _ _ _ (by omega) (by omega)).mono ?_; rintro e w' ⟨r3, hp0, hp1, rfl, rfl⟩
            have hr3 : r3 = 0 ∨ r3 = 1 ∨ r3 = 2 := by omega
            rcases hr3 with rfl | rfl | rfl
            · skip
              go_wp2_with (at_builtin; refine wpList_append_own _ rfl _ _ 36 rfl w.heap.size 39 i0 (.agg #[.int .i64 0, .int .i64 0, .int .i64 0, .string ⟨#[]⟩]) 4 40 Try.underlying36 hi hz0 hz1 hz2 rfl (by decide) _ _ _ rfl (((hown.alloc _).alloc _).alloc _) ⟨w1.heap.size + 2, 0, none⟩ 1 1 [.int .i64 s, .int .i64 (1 + r), .int .i64 10, .string ⟨#[]⟩] rfl rfl ?c1 ?c2 ?c3 ?c4 ?c5 ?_)
              case c1 => exact cell_four_at _ _ (by simp) _ _ _ _ _
              case c2 => intro u hu; simp at hu; rcases hu with rfl | rfl | rfl | rfl <;> rfl
              case c3 => unfold maxLen; omega
              case c4 => omega
              case c5 => simp; omega
              intro v' w' hown' hgrow _
              have hbel' : Below w.heap.size w w' := (((hbel.alloc hbz1 _).alloc (by simp; omega) _).alloc (by simp; omega) _).grown hgrow (by simp; omega) (fun q hq => (hown.lt q hq).1)
              have hchain := Chain.snoc (p := ⟨s, 1 + r, 10, ⟨#[]⟩⟩) ⟨hs0, n0, (by show 1 + r ≤ 8; omega), Or.inr ⟨Or.inl rfl, rfl⟩⟩ rfl hinv.chain
              have hownp : w'.ownsRow w.heap.size 39 4 v' (xs ++ [(⟨s, 1 + r, 10, ⟨#[]⟩⟩ : Prt)]).length (flat (xs ++ [(⟨s, 1 + r, 10, ⟨#[]⟩⟩ : Prt)])) := by
                rw [flat_snoc, List.length_append]; exact hown'
              clear hgrow hown'
              go_wp2_with fail
              go_roundw
              case rel => exact ⟨k + 1, s + (1 + r), _, HK.out, by go_num, rfl, by omega, by omega, ⟨hbel', hownp, hchain⟩⟩
              case measure => have := HK.out; simp [intOf]; omega
            · skip
              go_wp2_with (at_builtin; refine wpList_append_own _ rfl _ _ 36 rfl w.heap.size 39 i0 (.agg #[.int .i64 0, .int .i64 0, .int .i64 0, .string ⟨#[]⟩]) 4 40 Try.underlying36 hi hz0 hz1 hz2 rfl (by decide) _ _ _ rfl (((hown.alloc _).alloc _).alloc _) ⟨w1.heap.size + 2, 0, none⟩ 1 1 [.int .i64 s, .int .i64 (1 + r), .int .i64 50, .string ⟨#[]⟩] rfl rfl ?c1 ?c2 ?c3 ?c4 ?c5 ?_)
              case c1 => exact cell_four_at _ _ (by simp) _ _ _ _ _
              case c2 => intro u hu; simp at hu; rcases hu with rfl | rfl | rfl | rfl <;> rfl
              case c3 => unfold maxLen; omega
              case c4 => omega
              case c5 => simp; omega
              intro v' w' hown' hgrow _
              have hbel' : Below w.heap.size w w' := (((hbel.alloc hbz1 _).alloc (by simp; omega) _).alloc (by simp; omega) _).grown hgrow (by simp; omega) (fun q hq => (hown.lt q hq).1)
              have hchain := Chain.snoc (p := ⟨s, 1 + r, 50, ⟨#[]⟩⟩) ⟨hs0, n0, (by show 1 + r ≤ 8; omega), Or.inr ⟨Or.inr (Or.inl rfl), rfl⟩⟩ rfl hinv.chain
              have hownp : w'.ownsRow w.heap.size 39 4 v' (xs ++ [(⟨s, 1 + r, 50, ⟨#[]⟩⟩ : Prt)]).length (flat (xs ++ [(⟨s, 1 + r, 50, ⟨#[]⟩⟩ : Prt)])) := by
                rw [flat_snoc, List.length_append]; exact hown'
              clear hgrow hown'
              go_wp2_with fail
              go_roundw
              case rel => exact ⟨k + 1, s + (1 + r), _, HK.out, by go_num, rfl, by omega, by omega, ⟨hbel', hownp, hchain⟩⟩
              case measure => have := HK.out; simp [intOf]; omega
            · skip
              go_wp2_with (at_builtin; refine wpList_append_own _ rfl _ _ 36 rfl w.heap.size 39 i0 (.agg #[.int .i64 0, .int .i64 0, .int .i64 0, .string ⟨#[]⟩]) 4 40 Try.underlying36 hi hz0 hz1 hz2 rfl (by decide) _ _ _ rfl (((hown.alloc _).alloc _).alloc _) ⟨w1.heap.size + 2, 0, none⟩ 1 1 [.int .i64 s, .int .i64 (1 + r), .int .i64 11, .string ⟨#[]⟩] rfl rfl ?c1 ?c2 ?c3 ?c4 ?c5 ?_)
              case c1 => exact cell_four_at _ _ (by simp) _ _ _ _ _
              case c2 => intro u hu; simp at hu; rcases hu with rfl | rfl | rfl | rfl <;> rfl
              case c3 => unfold maxLen; omega
              case c4 => omega
              case c5 => simp; omega
              intro v' w' hown' hgrow _
              have hbel' : Below w.heap.size w w' := (((hbel.alloc hbz1 _).alloc (by simp; omega) _).alloc (by simp; omega) _).grown hgrow (by simp; omega) (fun q hq => (hown.lt q hq).1)
              have hchain := Chain.snoc (p := ⟨s, 1 + r, 11, ⟨#[]⟩⟩) ⟨hs0, n0, (by show 1 + r ≤ 8; omega), Or.inr ⟨Or.inr (Or.inr rfl), rfl⟩⟩ rfl hinv.chain
              have hownp : w'.ownsRow w.heap.size 39 4 v' (xs ++ [(⟨s, 1 + r, 11, ⟨#[]⟩⟩ : Prt)]).length (flat (xs ++ [(⟨s, 1 + r, 11, ⟨#[]⟩⟩ : Prt)])) := by
                rw [flat_snoc, List.length_append]; exact hown'
              clear hgrow hown'
              go_wp2_with fail
              go_roundw
              case rel => exact ⟨k + 1, s + (1 + r), _, HK.out, by go_num, rfl, by omega, by omega, ⟨hbel', hownp, hchain⟩⟩
              case measure => have := HK.out; simp [intOf]; omega
      · obtain rfl : s = count := by omega
        have c1 : (k : Int) < (len : Int) := by omega
        clear hsc hlt hk
        go_wp2_with fail
        go_ret
        exact ⟨_, xs, rfl, hinv⟩
    · obtain rfl : k = len := by omega
      clear hlt hk
      by_cases hsc : s < count
      · have hxc : (xs.length : Int) ≤ 8 := by omega
        go_wp2_with fail
        refine (data_int _ _ _ (by omega) (by omega)).mono ?_; rintro e w1 ⟨rfl, hb1⟩
        have hds := dataS_size s (count - s).toNat
        generalize dataS s (count - s).toNat = d at hds ⊢
        have HDS : Hid ((d.size : Int) = 8 * (count - s)) := by show _ = _; omega
        have hbel : Below w.heap.size w w1 := hinv.bel.trans (hb1.mono hbz)
        have hown : w1.ownsRow w.heap.size 39 4 u5 xs.length (flat xs) := own_below hinv.own hb1 (Nat.le_refl _)
        have hbz1 := hbel.size
        clear hds
        go_wp2_with (at_builtin; refine wpList_append_own _ rfl _ _ 36 rfl w.heap.size 39 i0 (.agg #[.int .i64 0, .int .i64 0, .int .i64 0, .string ⟨#[]⟩]) 4 40 Try.underlying36 hi hz0 hz1 hz2 rfl (by decide) _ _ _ rfl (hown.alloc _) ⟨w1.heap.size, 0, none⟩ 1 1 [.int .i64 s, .int .i64 (count - s), .int .i64 0, .string d] rfl rfl ?c1 ?c2 ?c3 ?c4 ?c5 ?_)
        case c1 => exact cell_four_at _ _ rfl _ _ _ _ _
        case c2 => intro u hu; simp at hu; rcases hu with rfl | rfl | rfl | rfl <;> rfl
        case c3 => unfold maxLen; omega
        case c4 => omega
        case c5 => simp; omega
        intro v' w' hown' hgrow _
        have hbel' : Below w.heap.size w w' := (hbel.alloc hbz1 _).grown hgrow (by simp; omega) (fun q hq => (hown.lt q hq).1)
        have hchain := Chain.snoc (p := ⟨s, count - s, 0, d⟩) ⟨hs0, (by show 1 ≤ count - s; omega), (by show count - s ≤ 8; omega), Or.inl ⟨rfl, HDS.out⟩⟩ rfl hinv.chain
        have hownp : w'.ownsRow w.heap.size 39 4 v' (xs ++ [(⟨s, count - s, 0, d⟩ : Prt)]).length (flat (xs ++ [(⟨s, count - s, 0, d⟩ : Prt)])) := by
          rw [flat_snoc, List.length_append]; exact hown'
        clear hgrow hown'
        go_wp2_with fail
        go_ret
        rw [show s + (count - s) = count from by omega] at hchain
        exact ⟨_, _, rfl, ⟨hbel', hownp, hchain⟩⟩
      · obtain rfl : s = count := by omega
        clear hsc
        go_wp2_with fail
        go_ret
        exact ⟨_, xs, rfl, hinv⟩
end Go.Proofs.Ytppkbifhhpakgaa
