/- The walk of ContentLaws, up to the sanity check. -/
import Derived.Test.YtebdnnfaghhpkaaLp
import Derived.Test.YtebdnnfaghhpkaaWca
namespace Go.Proofs.Ytebdnnfaghhpkaa
open Go.ChangeShapes Go.WideShapes Go.ChangeAt Go.RowKit

set_option maxRecDepth 100000 in
set_option maxHeartbeats 8000000 in
theorem laws_walk (hA : ∀ w : World, Calls Try.prog 22 #[] w (RetW (.bool true) w)) (a : Option Addr) (len cap : Nat) (w : World) (ha : ArgRow w a len) (hl : len ≤ maxLen) :
    Calls Try.prog 6 #[.slice a len cap] w (RetW (.bool true) w) := by
  have HAW := Lib.hid hA
  clear hA
  have HT := Lib.hid (tape_start w a len cap ha hl)
  go_enter Try.func6, Try.ntmps6
  go_wp2_with fail
  have tp0 := HT.out
  clear HT
  have HK : Hid (Tock w.heap.size w (w.alloc (.cells #[.slice a len cap, .int .i64 0] 25))) := Tock.ofBelow ((Below.refl w.heap.size w).alloc (Nat.le_refl _) _) (Nat.le_refl _)
  generalize w.alloc (.cells #[.slice a len cap, .int .i64 0] 25) = w0 at *
  refine (next_tp 40 _ _ _ _ _ _ (by omega) (by omega) tp0).mono ?_
  rintro e w1 ⟨k1, k1a, k1b, rfl, hk, tpn⟩
  replace hk := hk.tock
  replace HK := Lib.hid (HK.out.trans hk)
  clear hk tp0
  have tp1 := tpn
  clear tpn
  obtain ⟨k1, rfl⟩ := Int.eq_ofNat_of_zero_le k1a
  go_wp2_with fail
  refine (bytes_any k1 _ _ _ _ _ _ (by omega) tp1).mono ?_
  rintro e w2 ⟨s, hs, rfl, hk, tpn⟩
  replace HK := Lib.hid (HK.out.trans hk)
  clear hk tp1
  have tp2 := tpn
  clear tpn
  have sl : s.size ≤ 39 := by omega
  clear hs
  go_wp2_with fail
  refine (next_tp 50 _ _ _ _ _ _ (by omega) (by omega) tp2).mono ?_
  rintro e w3 ⟨o, oa, ob, rfl, hk, tpn⟩
  replace hk := hk.tock
  replace HK := Lib.hid (HK.out.trans hk)
  clear hk tp2
  have tp3 := tpn
  clear tpn
  obtain ⟨o, rfl⟩ := Int.eq_ofNat_of_zero_le oa
  go_wp2_with fail
  refine (next_tp 20 _ _ _ _ _ _ (by omega) (by omega) tp3).mono ?_
  rintro e w4 ⟨k2, k2a, k2b, rfl, hk, tpn⟩
  replace hk := hk.tock
  replace HK := Lib.hid (HK.out.trans hk)
  clear hk tp3
  have tp4 := tpn
  clear tpn
  obtain ⟨k2, rfl⟩ := Int.eq_ofNat_of_zero_le k2a
  go_wp2_with fail
  have hby := bytes_any (1 + k2) _ _ _ _ _ _ (by omega) tp4
  rw [show ((1 + k2 : Nat) : Int) = 1 + (k2 : Int) from by omega] at hby
  refine hby.mono ?_
  rintro e w5 ⟨b, hb, rfl, hk, tpn⟩
  clear hby
  replace HK := Lib.hid (HK.out.trans hk)
  clear hk tp4
  have tp5 := tpn
  clear tpn
  have bl : b.size ≤ 20 := by omega
  have bp : 1 ≤ b.size := by omega
  clear hb
  go_wp2_with fail
  have HP : Hid (∀ n : Nat, n ≤ 59 → ∃ x y z p : ByteArray, writeV s (o : Int) b = (x, 0) ∧ readV x (o : Int) (b.size : Int) = (b, 0) ∧ truncV x (n : Int) = (y, 0) ∧ truncV y (x.size : Int) = (z, 0) ∧ punchV x (o : Int) (b.size : Int) = (p, 0) ∧
        x.size ≤ 128 ∧ y.size = n ∧ z.size = x.size ∧ p.size = x.size ∧
        (∀ k, k < x.size → bat z k = if n ≤ k then 0 else bat x k) ∧ (∀ k, k < x.size → bat p k = if o ≤ k ∧ k < o + b.size then 0 else bat x k)) := fun n hn => laws_plain s b o n sl bp bl (by omega) hn
  have c1 := fun w => write_any s (o : Int) b w (by unfold maxLen; omega) (by unfold maxLen; omega)
  have hx0 : ∃ x : ByteArray, writeV s (o : Int) b = (x, 0) ∧ x.size ≤ 128 ∧ readV x (o : Int) (b.size : Int) = (b, 0) := by
    obtain ⟨x, y, z, p, e1, e2, e3, e4, e5, e6, e7⟩ := HP.out 0 (by omega)
    exact ⟨x, e1, e6, e2⟩
  obtain ⟨x, ex, xl, er⟩ := hx0
  rw [ex] at c1
  have c2 := fun w => read_any x (o : Int) (b.size : Int) w (by unfold maxLen; omega)
  rw [er] at c2
  simp only at c1 c2
  have C1 := Lib.hid c1; have C2 := Lib.hid c2
  have EX := Lib.hid ex
  clear c1 c2 ex er k1a k1b k2a k2b
  refine (C1.out _).mono ?_; rintro e w6 ⟨rfl, hb⟩
  replace HK := Lib.hid (HK.out.trans (Tock.ofBelow hb (Nat.le_refl _)))
  have tp6 := tp5.below hb tp5.hi
  clear tp5 hb
  go_wp2_with fail
  refine (C2.out _).mono ?_; rintro e w' ⟨rfl, rfl⟩
  go_wp2_with fail
  refine (next_tp 60 _ _ _ _ _ _ (by omega) (by omega) tp6).mono ?_
  rintro e w7 ⟨n, na, nb, rfl, hk, tpn⟩
  replace hk := hk.tock
  replace HK := Lib.hid (HK.out.trans hk)
  clear hk tp6
  have tp7 := tpn
  clear tpn
  obtain ⟨n, rfl⟩ := Int.eq_ofNat_of_zero_le na
  obtain ⟨x2, y, z, p, e1, e2, e3, e4, e5, e6, e7, e8, e9, e10, e11⟩ := HP.out n (by omega)
  have hxx : x2 = x := by have := EX.out; rw [e1] at this; exact congrArg Prod.fst this
  subst hxx
  have yl : y.size ≤ 128 := by omega
  have f1 := fun w => trunc_any x2 (n : Int) w (by unfold maxLen; omega)
  have f2 := fun w => trunc_any y (x2.size : Int) w (by unfold maxLen; omega)
  have f3 := fun w => punch_any x2 (o : Int) (b.size : Int) w (by unfold maxLen; omega)
  rw [e3] at f1
  rw [e4] at f2
  rw [e5] at f3
  simp only at f1 f2 f3
  have F1 := Lib.hid f1; have F2 := Lib.hid f2; have F3 := Lib.hid f3
  have E7 : Hid ((y.size : Int) = (n : Int)) := by rw [Hid, e7]
  have E8 : Hid ((z.size : Int) = (x2.size : Int)) := by rw [Hid, e8]
  have E9 : Hid ((p.size : Int) = (x2.size : Int)) := by rw [Hid, e9]
  have HZ : Hid (∀ k, k < x2.size → ∃ h : k < z.size, ∃ h1 : k < x2.size, (z[k]'h) = if n ≤ k then 0 else x2[k]'h1) := by
    intro k hk
    have h : k < z.size := by omega
    refine ⟨h, hk, ?_⟩
    rw [get_bat _ _ h, get_bat _ _ hk]
    exact e10 k hk
  have HPP : Hid (∀ k, k < x2.size → ∃ h : k < p.size, ∃ h1 : k < x2.size, (p[k]'h) = if o ≤ k ∧ k < o + b.size then 0 else x2[k]'h1) := by
    intro k hk
    have h : k < p.size := by omega
    refine ⟨h, hk, ?_⟩
    rw [get_bat _ _ h, get_bat _ _ hk]
    exact e11 k hk
  have zl : z.size ≤ 128 := by omega
  have pl : p.size ≤ 128 := by omega
  have ES8 := Lib.hid e8
  have ES9 := Lib.hid e9
  clear f1 f2 f3 e1 e2 e3 e4 e5 e7 e8 e9 e10 e11 HP EX C1 C2
  have HB := Lib.hid tp7.bel
  clear tp7
  clear HK
  go_wp2_with fail
  refine (F1.out _).mono ?_; rintro e w8 ⟨rfl, hb⟩
  replace HB := Lib.hid (HB.out.trans (hb.mono HB.out.size))
  clear hb
  go_wp2_with fail
  refine (F2.out _).mono ?_; rintro e w9 ⟨rfl, hb⟩
  replace HB := Lib.hid (HB.out.trans (hb.mono HB.out.size))
  clear hb
  go_wp2_with fail
  refine (F3.out _).mono ?_; rintro e w10 ⟨rfl, hb⟩
  replace HB := Lib.hid (HB.out.trans (hb.mono HB.out.size))
  clear hb
  have e7 := E7.out; have e8 := E8.out; have e9 := E9.out
  go_wp2_with fail
  clear e7 e8 e9 F1 F2 F3 E7
  have HZ8 := E8; have HZ9 := E9
  clear E8 E9 sl yl bp
  go_loopw [18, 19] (fun i _ wr => ∃ k : Nat, k ≤ x2.size ∧ i = .int .i64 k ∧ wr = w10) (fun i _ _ => 300 - (intOf i).toNat)
  case atStart => exact ⟨0, Nat.zero_le _, rfl, rfl⟩
  case round =>
    obtain ⟨k, hk, rfl, rfl⟩ := hrel
    by_cases hlt : k < x2.size
    · obtain ⟨h, h1, ez⟩ := HZ.out k hlt
      obtain ⟨g, g1, ep⟩ := HPP.out k hlt
      have hlt' : (k : Int) < (x2.size : Int) := by omega
      by_cases c1 : n ≤ k
      · rw [if_pos c1] at ez
        have hz : (((z[k]'h).toNat : Nat) : Int) = 0 := by rw [ez]; rfl
        clear ez
        have c1' : (n : Int) ≤ (k : Int) := by omega
        by_cases c2 : o ≤ k ∧ k < o + b.size
        · rw [if_pos c2] at ep
          have hp : (((p[k]'g).toNat : Nat) : Int) = 0 := by rw [ep]; rfl
          have c2' : (o : Int) ≤ (k : Int) := by omega
          have c3' : (k : Int) < (o : Int) + (b.size : Int) := by omega
          clear ep c2
          go_wp2_with fail
          go_roundw
          case rel => exact ⟨k + 1, by omega, by go_num, trivial⟩
          case measure => simp [intOf]; omega
        · rw [if_neg c2] at ep
          have hp : (((p[k]'g).toNat : Nat) : Int) = ((x2[k]'g1).toNat : Int) := by rw [ep]
          clear ep
          by_cases c4 : o ≤ k
          · have c2' : (o : Int) ≤ (k : Int) := by omega
            have c3' : (o : Int) + (b.size : Int) ≤ (k : Int) := by omega
            clear c2
            go_wp2_with fail
            go_roundw
            case rel => exact ⟨k + 1, by omega, by go_num, trivial⟩
            case measure => simp [intOf]; omega
          · have c2' : (k : Int) < (o : Int) := by omega
            clear c2
            go_wp2_with fail
            go_roundw
            case rel => exact ⟨k + 1, by omega, by go_num, trivial⟩
            case measure => simp [intOf]; omega
      · rw [if_neg c1] at ez
        have hz : (((z[k]'h).toNat : Nat) : Int) = ((x2[k]'h1).toNat : Int) := by rw [ez]
        clear ez
        have c1' : (k : Int) < (n : Int) := by omega
        by_cases c2 : o ≤ k ∧ k < o + b.size
        · rw [if_pos c2] at ep
          have hp : (((p[k]'g).toNat : Nat) : Int) = 0 := by rw [ep]; rfl
          have c2' : (o : Int) ≤ (k : Int) := by omega
          have c3' : (k : Int) < (o : Int) + (b.size : Int) := by omega
          clear ep c2
          go_wp2_with fail
          go_roundw
          case rel => exact ⟨k + 1, by omega, by go_num, trivial⟩
          case measure => simp [intOf]; omega
        · rw [if_neg c2] at ep
          have hp : (((p[k]'g).toNat : Nat) : Int) = ((x2[k]'g1).toNat : Int) := by rw [ep]
          clear ep
          by_cases c4 : o ≤ k
          · have c2' : (o : Int) ≤ (k : Int) := by omega
            have c3' : (o : Int) + (b.size : Int) ≤ (k : Int) := by omega
            clear c2
            go_wp2_with fail
            go_roundw
            case rel => exact ⟨k + 1, by omega, by go_num, trivial⟩
            case measure => simp [intOf]; omega
          · have c2' : (k : Int) < (o : Int) := by omega
            clear c2
            go_wp2_with fail
            go_roundw
            case rel => exact ⟨k + 1, by omega, by go_num, trivial⟩
            case measure => simp [intOf]; omega
    · have hge : (x2.size : Int) ≤ (k : Int) := by omega
      go_wp2_with fail
      refine (HAW.out _).mono ?_; rintro e w11 ⟨rfl, hb⟩
      replace HB := Lib.hid (HB.out.trans (hb.mono HB.out.size))
      go_wp2_with fail
      go_ret
      exact RetW.mk rfl HB.out
end Go.Proofs.Ytebdnnfaghhpkaa
