/- The walk of PageExchange. -/
import Derived.Test.YthimcidkmnobnaaCmm
namespace Go.Proofs.Ythimcidkmnobnaa
open Go.ChangeShapes Go.WideShapes Go.ChangeAt Go.RowKit

set_option maxRecDepth 100000 in
set_option maxHeartbeats 8000000 in
theorem exchange_walk (a : Option Addr) (len cap : Nat) (w : World) (ha : ArgRow w a len) (hl : len ≤ maxLen) :
    Calls Try.prog 7 #[.slice a len cap] w (RetW (.bool true) w) := by
  have HT := Lib.hid (tape_start w a len cap ha hl)
  go_enter Try.func7, Try.ntmps7
  go_wp2_with fail
  have tp0 := HT.out
  clear HT
  have HK : Hid (Tock w.heap.size w (w.alloc (.cells #[.slice a len cap, .int .i64 0] 25))) := Tock.ofBelow ((Below.refl w.heap.size w).alloc (Nat.le_refl _) _) (Nat.le_refl _)
  generalize w.alloc (.cells #[.slice a len cap, .int .i64 0] 25) = w0 at *
  refine (mkpage_any _ _ _ _ _ _ tp0).mono ?_
  rintro e w1 ⟨p, hp, rfl, hk, tpn⟩
  replace HK := Lib.hid (HK.out.trans hk)
  clear hk tp0
  have tp1 := tpn
  clear tpn
  have hd : p.d.size ≤ maxLen := by unfold maxLen; omega
  have hpl := fun h => exchange_plain (p := p) h
  have hck := fun w => check_any p w hd
  obtain ⟨d, v, e⟩ := p
  simp only [Pg.val] at hp hck ⊢
  have HPL := Lib.hid hpl
  have HCK := Lib.hid hck
  clear hpl hck hd hp
  go_wp2_with fail
  have hP := Hs.new w1 d v e
  have hPt : w1.heap.size ≠ w.heap.size := by have := tp1.hi; omega
  have hPw : w.heap.size ≤ w1.heap.size := HK.out.size
  replace HK := Lib.hid (HK.out.trans (Tock.ofBelow ((Below.refl w1.heap.size w1).alloc (Nat.le_refl _) (.cells #[.string d, .int .i64 v, .int .i64 e] 27)) (Nat.le_refl _)))
  have tp2 := tp1.below ((Below.refl w1.heap.size w1).alloc (Nat.le_refl _) (.cells #[.string d, .int .i64 v, .int .i64 e] 27)) tp1.hi
  clear tp1
  generalize w1.alloc (.cells #[.string d, .int .i64 v, .int .i64 e] 27) = w2 at *
  generalize w1.heap.size = BhP at *
  replace hP0 : w2.cell? ⟨BhP, 0, none⟩ = some (.string d) := hP.c0
  replace hP1 : w2.cell? ⟨BhP, 1, none⟩ = some (.int .i64 v) := hP.c1
  replace hP2 : w2.cell? ⟨BhP, 2, none⟩ = some (.int .i64 e) := hP.c2
  replace hPf := hP.fz
  cases hc : chk ⟨d, v, e⟩ with
  | false =>
    rw [hc] at HCK
    clear hc HPL
    refine (HCK.out _).mono ?_; rintro e w3 ⟨rfl, hb⟩
    replace HK := Lib.hid (HK.out.trans (Tock.ofBelow hb (Nat.le_refl _)))
    replace hP := hP.below hb
    have tp3 := tp2.below hb tp2.hi
    clear tp2
    replace hP0 : w3.cell? ⟨BhP, 0, none⟩ = some (.string d) := hP.c0
    replace hP1 : w3.cell? ⟨BhP, 1, none⟩ = some (.int .i64 v) := hP.c1
    replace hP2 : w3.cell? ⟨BhP, 2, none⟩ = some (.int .i64 e) := hP.c2
    replace hPf := hP.fz
    clear hb
    have HB := Lib.hid tp3.bel
    clear tp3
    clear HK
    go_wp2_with fail
    refine (awake_any _).mono ?_; rintro e w4 ⟨rfl, hb⟩
    replace HB := Lib.hid (HB.out.trans (hb.mono HB.out.size))
    replace hP := hP.below hb
    replace hP0 : w4.cell? ⟨BhP, 0, none⟩ = some (.string d) := hP.c0
    replace hP1 : w4.cell? ⟨BhP, 1, none⟩ = some (.int .i64 v) := hP.c1
    replace hP2 : w4.cell? ⟨BhP, 2, none⟩ = some (.int .i64 e) := hP.c2
    replace hPf := hP.fz
    clear hb
    go_wp2_with fail
    go_ret
    exact RetW.mk rfl HB.out
  | true =>
    rw [hc] at HCK
    have HPQ := Lib.hid (HPL.out hc)
    clear hc HPL
    refine (HCK.out _).mono ?_; rintro e w3 ⟨rfl, hb⟩
    replace HK := Lib.hid (HK.out.trans (Tock.ofBelow hb (Nat.le_refl _)))
    replace hP := hP.below hb
    have tp3 := tp2.below hb tp2.hi
    clear tp2
    replace hP0 : w3.cell? ⟨BhP, 0, none⟩ = some (.string d) := hP.c0
    replace hP1 : w3.cell? ⟨BhP, 1, none⟩ = some (.int .i64 v) := hP.c1
    replace hP2 : w3.cell? ⟨BhP, 2, none⟩ = some (.int .i64 e) := hP.c2
    replace hPf := hP.fz
    clear hb
    go_wp2_with fail
    refine (bytes_any 8 _ _ _ _ _ _ (by omega) tp3).mono ?_
    rintro e w4 ⟨s1, hs1, rfl, hk, tpn⟩
    replace hP := hP.tock hPt hk
    replace HK := Lib.hid (HK.out.trans hk)
    replace hP0 : w4.cell? ⟨BhP, 0, none⟩ = some (.string d) := hP.c0
    replace hP1 : w4.cell? ⟨BhP, 1, none⟩ = some (.int .i64 v) := hP.c1
    replace hP2 : w4.cell? ⟨BhP, 2, none⟩ = some (.int .i64 e) := hP.c2
    replace hPf := hP.fz
    clear hk tp3
    have tp4 := tpn
    clear tpn
    have HS1 := Lib.hid hs1; clear hs1
    go_wp2_with fail
    refine (bytes_any 8 _ _ _ _ _ _ (by omega) tp4).mono ?_
    rintro e w5 ⟨s2, hs2, rfl, hk, tpn⟩
    replace hP := hP.tock hPt hk
    replace HK := Lib.hid (HK.out.trans hk)
    replace hP0 : w5.cell? ⟨BhP, 0, none⟩ = some (.string d) := hP.c0
    replace hP1 : w5.cell? ⟨BhP, 1, none⟩ = some (.int .i64 v) := hP.c1
    replace hP2 : w5.cell? ⟨BhP, 2, none⟩ = some (.int .i64 e) := hP.c2
    replace hPf := hP.fz
    clear hk tp4
    have tp5 := tpn
    clear tpn
    have HS2 := Lib.hid hs2; clear hs2
    go_wp2_with fail
    obtain ⟨A, B, C, hA, hB, hC, hD, hpz, hAz, hCz, hdk⟩ := HPQ.out s1 s2 HS1.out HS2.out
    have zz : ∀ dd : ByteArray, dd.size = 16 → dd.size ≤ maxLen := fun dd h => by unfold maxLen; omega
    have z8 : ∀ dd : ByteArray, dd.size = 8 → dd.size ≤ maxLen := fun dd h => by unfold maxLen; omega
    have kA := fun w => write_any ⟨d, v, e⟩ 0 s1 w (zz _ hpz) (z8 _ HS1.out)
    have kB := fun w => write_any A 8 s2 w (zz _ hAz) (z8 _ HS2.out)
    have kC := fun w => write_any ⟨d, v, e⟩ 8 s2 w (zz _ hpz) (z8 _ HS2.out)
    have kD := fun w => write_any C 0 s1 w (zz _ hCz) (z8 _ HS1.out)
    rw [hA] at kA
    rw [hB] at kB
    rw [hC] at kC
    rw [hD] at kD
    have HU : Hid (∀ disk : ByteArray, disk.size = 16 → ∃ F U : Pg, (∀ w, Calls Try.prog 24 #[A.val, .int .i64 2, .string disk] w (RetW (.tuple #[U.val, .int .i64 0]) w)) ∧ (∀ w, Calls Try.prog 24 #[Pg.val ⟨d, v, e⟩, .int .i64 2, .string disk] w (RetW (.tuple #[F.val, .int .i64 0]) w)) ∧ (∀ w, Calls Try.prog 26 #[F.val, .int .i64 0, .string s1] w (RetW (.tuple #[U.val, .int .i64 0]) w))) := by
      intro disk hk
      obtain ⟨F, U, h1, h2, h3, h4⟩ := hdk disk hk
      have k1 := fun w => fill_any A 2 disk w (zz _ hAz) (zz _ hk)
      have k2 := fun w => fill_any ⟨d, v, e⟩ 2 disk w (zz _ hpz) (zz _ hk)
      have k3 := fun w => write_any F 0 s1 w (zz _ h4) (z8 _ HS1.out)
      rw [h1] at k1
      rw [h2] at k2
      rw [h3] at k3
      exact ⟨F, U, k1, k2, k3⟩
    obtain ⟨dA, vA, eA⟩ := A
    obtain ⟨dB, vB, eB⟩ := B
    obtain ⟨dC, vC, eC⟩ := C
    simp only [Pg.val] at kA kB kC kD HU
    have KA := Lib.hid kA; have KB := Lib.hid kB; have KC := Lib.hid kC; have KD := Lib.hid kD
    clear kA kB kC kD hA hB hC hD hpz hAz hCz hdk zz z8 HPQ HS1 HS2
    go_wp2_with fail
    refine (KA.out _).mono ?_; rintro e w6 ⟨rfl, hb⟩
    replace HK := Lib.hid (HK.out.trans (Tock.ofBelow hb (Nat.le_refl _)))
    replace hP := hP.below hb
    have tp6 := tp5.below hb tp5.hi
    clear tp5
    replace hP0 : w6.cell? ⟨BhP, 0, none⟩ = some (.string d) := hP.c0
    replace hP1 : w6.cell? ⟨BhP, 1, none⟩ = some (.int .i64 v) := hP.c1
    replace hP2 : w6.cell? ⟨BhP, 2, none⟩ = some (.int .i64 e) := hP.c2
    replace hPf := hP.fz
    clear hb
    have hPlt := hP.lt
    go_wp2_with fail
    clear hPlt
    have hA := Hs.new w6 dA vA eA
    have hPhA : w6.heap.size ≠ BhP := by have := hP.lt; omega
    have hAhP : BhP ≠ w6.heap.size := by have := hP.lt; omega
    replace hP := hP.alloc (.cells #[.string dA, .int .i64 vA, .int .i64 eA] 27)
    have hAt : w6.heap.size ≠ w.heap.size := by have := tp6.hi; omega
    have hAw : w.heap.size ≤ w6.heap.size := HK.out.size
    replace HK := Lib.hid (HK.out.trans (Tock.ofBelow ((Below.refl w6.heap.size w6).alloc (Nat.le_refl _) (.cells #[.string dA, .int .i64 vA, .int .i64 eA] 27)) (Nat.le_refl _)))
    have tp7 := tp6.below ((Below.refl w6.heap.size w6).alloc (Nat.le_refl _) (.cells #[.string dA, .int .i64 vA, .int .i64 eA] 27)) tp6.hi
    clear tp6
    clear hP0 hP1 hP2 hPf
    generalize w6.alloc (.cells #[.string dA, .int .i64 vA, .int .i64 eA] 27) = w7 at *
    generalize w6.heap.size = BhA at *
    replace hP0 : w7.cell? ⟨BhP, 0, none⟩ = some (.string d) := hP.c0
    replace hP1 : w7.cell? ⟨BhP, 1, none⟩ = some (.int .i64 v) := hP.c1
    replace hP2 : w7.cell? ⟨BhP, 2, none⟩ = some (.int .i64 e) := hP.c2
    replace hPf := hP.fz
    replace hA0 : w7.cell? ⟨BhA, 0, none⟩ = some (.string dA) := hA.c0
    replace hA1 : w7.cell? ⟨BhA, 1, none⟩ = some (.int .i64 vA) := hA.c1
    replace hA2 : w7.cell? ⟨BhA, 2, none⟩ = some (.int .i64 eA) := hA.c2
    replace hAf := hA.fz
    refine (KB.out _).mono ?_; rintro e w8 ⟨rfl, hb⟩
    replace HK := Lib.hid (HK.out.trans (Tock.ofBelow hb (Nat.le_refl _)))
    replace hP := hP.below hb
    replace hA := hA.below hb
    have tp8 := tp7.below hb tp7.hi
    clear tp7
    replace hP0 : w8.cell? ⟨BhP, 0, none⟩ = some (.string d) := hP.c0
    replace hP1 : w8.cell? ⟨BhP, 1, none⟩ = some (.int .i64 v) := hP.c1
    replace hP2 : w8.cell? ⟨BhP, 2, none⟩ = some (.int .i64 e) := hP.c2
    replace hPf := hP.fz
    replace hA0 : w8.cell? ⟨BhA, 0, none⟩ = some (.string dA) := hA.c0
    replace hA1 : w8.cell? ⟨BhA, 1, none⟩ = some (.int .i64 vA) := hA.c1
    replace hA2 : w8.cell? ⟨BhA, 2, none⟩ = some (.int .i64 eA) := hA.c2
    replace hAf := hA.fz
    clear hb
    have hPlt := hP.lt
    have hAlt := hA.lt
    go_wp2_with fail
    clear hPlt hAlt
    clear hP0 hP1 hP2 hPf hA0 hA1 hA2 hAf
    replace hA := hA.put dB vB eB
    replace hP := hP.other (show BhP ≠ BhA from by assumption) dB vB eB
    replace HK := Lib.hid (HK.out.put hAw dB vB eB)
    have tp9 := tp8.put3 hAt hAw dB vB eB
    clear tp8
    have hW : Hid (((w8.setCell ⟨BhA, 0, none⟩ (.string dB)).setCell ⟨BhA, 1, none⟩ (.int .i64 vB)).setCell ⟨BhA, 2, none⟩ (.int .i64 eB) = put3 w8 BhA dB vB eB) := rfl
    rw [hW.out]; clear hW
    generalize put3 w8 BhA dB vB eB = w9 at *
    replace hP0 : w9.cell? ⟨BhP, 0, none⟩ = some (.string d) := hP.c0
    replace hP1 : w9.cell? ⟨BhP, 1, none⟩ = some (.int .i64 v) := hP.c1
    replace hP2 : w9.cell? ⟨BhP, 2, none⟩ = some (.int .i64 e) := hP.c2
    replace hPf := hP.fz
    replace hA0 : w9.cell? ⟨BhA, 0, none⟩ = some (.string dB) := hA.c0
    replace hA1 : w9.cell? ⟨BhA, 1, none⟩ = some (.int .i64 vB) := hA.c1
    replace hA2 : w9.cell? ⟨BhA, 2, none⟩ = some (.int .i64 eB) := hA.c2
    replace hAf := hA.fz
    refine (KC.out _).mono ?_; rintro e w10 ⟨rfl, hb⟩
    replace HK := Lib.hid (HK.out.trans (Tock.ofBelow hb (Nat.le_refl _)))
    replace hP := hP.below hb
    replace hA := hA.below hb
    have tp10 := tp9.below hb tp9.hi
    clear tp9
    replace hP0 : w10.cell? ⟨BhP, 0, none⟩ = some (.string d) := hP.c0
    replace hP1 : w10.cell? ⟨BhP, 1, none⟩ = some (.int .i64 v) := hP.c1
    replace hP2 : w10.cell? ⟨BhP, 2, none⟩ = some (.int .i64 e) := hP.c2
    replace hPf := hP.fz
    replace hA0 : w10.cell? ⟨BhA, 0, none⟩ = some (.string dB) := hA.c0
    replace hA1 : w10.cell? ⟨BhA, 1, none⟩ = some (.int .i64 vB) := hA.c1
    replace hA2 : w10.cell? ⟨BhA, 2, none⟩ = some (.int .i64 eB) := hA.c2
    replace hAf := hA.fz
    clear hb
    have hPlt := hP.lt
    have hAlt := hA.lt
    go_wp2_with fail
    clear hPlt hAlt
    have hC := Hs.new w10 dC vC eC
    have hPhC : w10.heap.size ≠ BhP := by have := hP.lt; omega
    have hChP : BhP ≠ w10.heap.size := by have := hP.lt; omega
    have hAhC : w10.heap.size ≠ BhA := by have := hA.lt; omega
    have hChA : BhA ≠ w10.heap.size := by have := hA.lt; omega
    replace hP := hP.alloc (.cells #[.string dC, .int .i64 vC, .int .i64 eC] 27)
    replace hA := hA.alloc (.cells #[.string dC, .int .i64 vC, .int .i64 eC] 27)
    have hCt : w10.heap.size ≠ w.heap.size := by have := tp10.hi; omega
    have hCw : w.heap.size ≤ w10.heap.size := HK.out.size
    replace HK := Lib.hid (HK.out.trans (Tock.ofBelow ((Below.refl w10.heap.size w10).alloc (Nat.le_refl _) (.cells #[.string dC, .int .i64 vC, .int .i64 eC] 27)) (Nat.le_refl _)))
    have tp11 := tp10.below ((Below.refl w10.heap.size w10).alloc (Nat.le_refl _) (.cells #[.string dC, .int .i64 vC, .int .i64 eC] 27)) tp10.hi
    clear tp10
    clear hP0 hP1 hP2 hPf hA0 hA1 hA2 hAf
    generalize w10.alloc (.cells #[.string dC, .int .i64 vC, .int .i64 eC] 27) = w11 at *
    generalize w10.heap.size = BhC at *
    replace hP0 : w11.cell? ⟨BhP, 0, none⟩ = some (.string d) := hP.c0
    replace hP1 : w11.cell? ⟨BhP, 1, none⟩ = some (.int .i64 v) := hP.c1
    replace hP2 : w11.cell? ⟨BhP, 2, none⟩ = some (.int .i64 e) := hP.c2
    replace hPf := hP.fz
    replace hA0 : w11.cell? ⟨BhA, 0, none⟩ = some (.string dB) := hA.c0
    replace hA1 : w11.cell? ⟨BhA, 1, none⟩ = some (.int .i64 vB) := hA.c1
    replace hA2 : w11.cell? ⟨BhA, 2, none⟩ = some (.int .i64 eB) := hA.c2
    replace hAf := hA.fz
    replace hC0 : w11.cell? ⟨BhC, 0, none⟩ = some (.string dC) := hC.c0
    replace hC1 : w11.cell? ⟨BhC, 1, none⟩ = some (.int .i64 vC) := hC.c1
    replace hC2 : w11.cell? ⟨BhC, 2, none⟩ = some (.int .i64 eC) := hC.c2
    replace hCf := hC.fz
    refine (KD.out _).mono ?_; rintro e w12 ⟨rfl, hb⟩
    replace HK := Lib.hid (HK.out.trans (Tock.ofBelow hb (Nat.le_refl _)))
    replace hP := hP.below hb
    replace hA := hA.below hb
    replace hC := hC.below hb
    have tp12 := tp11.below hb tp11.hi
    clear tp11
    replace hP0 : w12.cell? ⟨BhP, 0, none⟩ = some (.string d) := hP.c0
    replace hP1 : w12.cell? ⟨BhP, 1, none⟩ = some (.int .i64 v) := hP.c1
    replace hP2 : w12.cell? ⟨BhP, 2, none⟩ = some (.int .i64 e) := hP.c2
    replace hPf := hP.fz
    replace hA0 : w12.cell? ⟨BhA, 0, none⟩ = some (.string dB) := hA.c0
    replace hA1 : w12.cell? ⟨BhA, 1, none⟩ = some (.int .i64 vB) := hA.c1
    replace hA2 : w12.cell? ⟨BhA, 2, none⟩ = some (.int .i64 eB) := hA.c2
    replace hAf := hA.fz
    replace hC0 : w12.cell? ⟨BhC, 0, none⟩ = some (.string dC) := hC.c0
    replace hC1 : w12.cell? ⟨BhC, 1, none⟩ = some (.int .i64 vC) := hC.c1
    replace hC2 : w12.cell? ⟨BhC, 2, none⟩ = some (.int .i64 eC) := hC.c2
    replace hCf := hC.fz
    clear hb
    have hPlt := hP.lt
    have hAlt := hA.lt
    have hClt := hC.lt
    go_wp2_with fail
    clear hPlt hAlt hClt
    clear hP0 hP1 hP2 hPf hA0 hA1 hA2 hAf hC0 hC1 hC2 hCf
    replace hC := hC.put dB vB eB
    replace hP := hP.other (show BhP ≠ BhC from by assumption) dB vB eB
    replace hA := hA.other (show BhA ≠ BhC from by assumption) dB vB eB
    replace HK := Lib.hid (HK.out.put hCw dB vB eB)
    have tp13 := tp12.put3 hCt hCw dB vB eB
    clear tp12
    have hW : Hid (((w12.setCell ⟨BhC, 0, none⟩ (.string dB)).setCell ⟨BhC, 1, none⟩ (.int .i64 vB)).setCell ⟨BhC, 2, none⟩ (.int .i64 eB) = put3 w12 BhC dB vB eB) := rfl
    rw [hW.out]; clear hW
    generalize put3 w12 BhC dB vB eB = w13 at *
    replace hP0 : w13.cell? ⟨BhP, 0, none⟩ = some (.string d) := hP.c0
    replace hP1 : w13.cell? ⟨BhP, 1, none⟩ = some (.int .i64 v) := hP.c1
    replace hP2 : w13.cell? ⟨BhP, 2, none⟩ = some (.int .i64 e) := hP.c2
    replace hPf := hP.fz
    replace hA0 : w13.cell? ⟨BhA, 0, none⟩ = some (.string dB) := hA.c0
    replace hA1 : w13.cell? ⟨BhA, 1, none⟩ = some (.int .i64 vB) := hA.c1
    replace hA2 : w13.cell? ⟨BhA, 2, none⟩ = some (.int .i64 eB) := hA.c2
    replace hAf := hA.fz
    replace hC0 : w13.cell? ⟨BhC, 0, none⟩ = some (.string dB) := hC.c0
    replace hC1 : w13.cell? ⟨BhC, 1, none⟩ = some (.int .i64 vB) := hC.c1
    replace hC2 : w13.cell? ⟨BhC, 2, none⟩ = some (.int .i64 eB) := hC.c2
    replace hCf := hC.fz
    refine (bytes_any 16 _ _ _ _ _ _ (by omega) tp13).mono ?_
    rintro e w14 ⟨disk, hdk, rfl, hk, tpn⟩
    replace hP := hP.tock hPt hk
    replace hA := hA.tock hAt hk
    replace hC := hC.tock hCt hk
    replace HK := Lib.hid (HK.out.trans hk)
    replace hP0 : w14.cell? ⟨BhP, 0, none⟩ = some (.string d) := hP.c0
    replace hP1 : w14.cell? ⟨BhP, 1, none⟩ = some (.int .i64 v) := hP.c1
    replace hP2 : w14.cell? ⟨BhP, 2, none⟩ = some (.int .i64 e) := hP.c2
    replace hPf := hP.fz
    replace hA0 : w14.cell? ⟨BhA, 0, none⟩ = some (.string dB) := hA.c0
    replace hA1 : w14.cell? ⟨BhA, 1, none⟩ = some (.int .i64 vB) := hA.c1
    replace hA2 : w14.cell? ⟨BhA, 2, none⟩ = some (.int .i64 eB) := hA.c2
    replace hAf := hA.fz
    replace hC0 : w14.cell? ⟨BhC, 0, none⟩ = some (.string dB) := hC.c0
    replace hC1 : w14.cell? ⟨BhC, 1, none⟩ = some (.int .i64 vB) := hC.c1
    replace hC2 : w14.cell? ⟨BhC, 2, none⟩ = some (.int .i64 eB) := hC.c2
    replace hCf := hC.fz
    clear hk tp13
    have tp14 := tpn
    clear tpn
    obtain ⟨⟨dF, vF, eF⟩, ⟨dU, vU, eU⟩, k1, k2, k3⟩ := HU.out disk hdk
    simp only at k1 k2 k3
    have K1 := Lib.hid k1; have K2 := Lib.hid k2; have K3 := Lib.hid k3
    clear k1 k2 k3 hdk HU
    have HB := Lib.hid tp14.bel
    clear tp14
    clear HK hPt hAt hCt
    have hPlt := hP.lt
    have hAlt := hA.lt
    have hClt := hC.lt
    go_wp2_with fail
    clear hPlt hAlt hClt
    refine (KA.out _).mono ?_; rintro e w15 ⟨rfl, hb⟩
    replace HB := Lib.hid (HB.out.trans (hb.mono HB.out.size))
    replace hP := hP.below hb
    replace hA := hA.below hb
    replace hC := hC.below hb
    replace hP0 : w15.cell? ⟨BhP, 0, none⟩ = some (.string d) := hP.c0
    replace hP1 : w15.cell? ⟨BhP, 1, none⟩ = some (.int .i64 v) := hP.c1
    replace hP2 : w15.cell? ⟨BhP, 2, none⟩ = some (.int .i64 e) := hP.c2
    replace hPf := hP.fz
    replace hA0 : w15.cell? ⟨BhA, 0, none⟩ = some (.string dB) := hA.c0
    replace hA1 : w15.cell? ⟨BhA, 1, none⟩ = some (.int .i64 vB) := hA.c1
    replace hA2 : w15.cell? ⟨BhA, 2, none⟩ = some (.int .i64 eB) := hA.c2
    replace hAf := hA.fz
    replace hC0 : w15.cell? ⟨BhC, 0, none⟩ = some (.string dB) := hC.c0
    replace hC1 : w15.cell? ⟨BhC, 1, none⟩ = some (.int .i64 vB) := hC.c1
    replace hC2 : w15.cell? ⟨BhC, 2, none⟩ = some (.int .i64 eB) := hC.c2
    replace hCf := hC.fz
    clear hb
    have hPlt := hP.lt
    have hAlt := hA.lt
    have hClt := hC.lt
    go_wp2_with fail
    clear hPlt hAlt hClt
    have hD := Hs.new w15 dA vA eA
    have hPhD : w15.heap.size ≠ BhP := by have := hP.lt; omega
    have hDhP : BhP ≠ w15.heap.size := by have := hP.lt; omega
    have hAhD : w15.heap.size ≠ BhA := by have := hA.lt; omega
    have hDhA : BhA ≠ w15.heap.size := by have := hA.lt; omega
    have hChD : w15.heap.size ≠ BhC := by have := hC.lt; omega
    have hDhC : BhC ≠ w15.heap.size := by have := hC.lt; omega
    replace hP := hP.alloc (.cells #[.string dA, .int .i64 vA, .int .i64 eA] 27)
    replace hA := hA.alloc (.cells #[.string dA, .int .i64 vA, .int .i64 eA] 27)
    replace hC := hC.alloc (.cells #[.string dA, .int .i64 vA, .int .i64 eA] 27)
    have hDw : w.heap.size ≤ w15.heap.size := HB.out.size
    replace HB := Lib.hid (HB.out.alloc HB.out.size (.cells #[.string dA, .int .i64 vA, .int .i64 eA] 27))
    clear hP0 hP1 hP2 hPf hA0 hA1 hA2 hAf hC0 hC1 hC2 hCf
    generalize w15.alloc (.cells #[.string dA, .int .i64 vA, .int .i64 eA] 27) = w16 at *
    generalize w15.heap.size = BhD at *
    replace hP0 : w16.cell? ⟨BhP, 0, none⟩ = some (.string d) := hP.c0
    replace hP1 : w16.cell? ⟨BhP, 1, none⟩ = some (.int .i64 v) := hP.c1
    replace hP2 : w16.cell? ⟨BhP, 2, none⟩ = some (.int .i64 e) := hP.c2
    replace hPf := hP.fz
    replace hA0 : w16.cell? ⟨BhA, 0, none⟩ = some (.string dB) := hA.c0
    replace hA1 : w16.cell? ⟨BhA, 1, none⟩ = some (.int .i64 vB) := hA.c1
    replace hA2 : w16.cell? ⟨BhA, 2, none⟩ = some (.int .i64 eB) := hA.c2
    replace hAf := hA.fz
    replace hC0 : w16.cell? ⟨BhC, 0, none⟩ = some (.string dB) := hC.c0
    replace hC1 : w16.cell? ⟨BhC, 1, none⟩ = some (.int .i64 vB) := hC.c1
    replace hC2 : w16.cell? ⟨BhC, 2, none⟩ = some (.int .i64 eB) := hC.c2
    replace hCf := hC.fz
    replace hD0 : w16.cell? ⟨BhD, 0, none⟩ = some (.string dA) := hD.c0
    replace hD1 : w16.cell? ⟨BhD, 1, none⟩ = some (.int .i64 vA) := hD.c1
    replace hD2 : w16.cell? ⟨BhD, 2, none⟩ = some (.int .i64 eA) := hD.c2
    replace hDf := hD.fz
    refine (K1.out _).mono ?_; rintro e w17 ⟨rfl, hb⟩
    replace HB := Lib.hid (HB.out.trans (hb.mono HB.out.size))
    replace hP := hP.below hb
    replace hA := hA.below hb
    replace hC := hC.below hb
    replace hD := hD.below hb
    replace hP0 : w17.cell? ⟨BhP, 0, none⟩ = some (.string d) := hP.c0
    replace hP1 : w17.cell? ⟨BhP, 1, none⟩ = some (.int .i64 v) := hP.c1
    replace hP2 : w17.cell? ⟨BhP, 2, none⟩ = some (.int .i64 e) := hP.c2
    replace hPf := hP.fz
    replace hA0 : w17.cell? ⟨BhA, 0, none⟩ = some (.string dB) := hA.c0
    replace hA1 : w17.cell? ⟨BhA, 1, none⟩ = some (.int .i64 vB) := hA.c1
    replace hA2 : w17.cell? ⟨BhA, 2, none⟩ = some (.int .i64 eB) := hA.c2
    replace hAf := hA.fz
    replace hC0 : w17.cell? ⟨BhC, 0, none⟩ = some (.string dB) := hC.c0
    replace hC1 : w17.cell? ⟨BhC, 1, none⟩ = some (.int .i64 vB) := hC.c1
    replace hC2 : w17.cell? ⟨BhC, 2, none⟩ = some (.int .i64 eB) := hC.c2
    replace hCf := hC.fz
    replace hD0 : w17.cell? ⟨BhD, 0, none⟩ = some (.string dA) := hD.c0
    replace hD1 : w17.cell? ⟨BhD, 1, none⟩ = some (.int .i64 vA) := hD.c1
    replace hD2 : w17.cell? ⟨BhD, 2, none⟩ = some (.int .i64 eA) := hD.c2
    replace hDf := hD.fz
    clear hb
    have hPlt := hP.lt
    have hAlt := hA.lt
    have hClt := hC.lt
    have hDlt := hD.lt
    go_wp2_with fail
    clear hPlt hAlt hClt hDlt
    clear hP0 hP1 hP2 hPf hA0 hA1 hA2 hAf hC0 hC1 hC2 hCf hD0 hD1 hD2 hDf
    replace hD := hD.put dU vU eU
    replace hP := hP.other (show BhP ≠ BhD from by assumption) dU vU eU
    replace hA := hA.other (show BhA ≠ BhD from by assumption) dU vU eU
    replace hC := hC.other (show BhC ≠ BhD from by assumption) dU vU eU
    replace HB := Lib.hid (HB.out.trans (put3_below hDw (d := dU) (v := vU) (e := eU)))
    have hW : Hid (((w17.setCell ⟨BhD, 0, none⟩ (.string dU)).setCell ⟨BhD, 1, none⟩ (.int .i64 vU)).setCell ⟨BhD, 2, none⟩ (.int .i64 eU) = put3 w17 BhD dU vU eU) := rfl
    rw [hW.out]; clear hW
    generalize put3 w17 BhD dU vU eU = w18 at *
    replace hP0 : w18.cell? ⟨BhP, 0, none⟩ = some (.string d) := hP.c0
    replace hP1 : w18.cell? ⟨BhP, 1, none⟩ = some (.int .i64 v) := hP.c1
    replace hP2 : w18.cell? ⟨BhP, 2, none⟩ = some (.int .i64 e) := hP.c2
    replace hPf := hP.fz
    replace hA0 : w18.cell? ⟨BhA, 0, none⟩ = some (.string dB) := hA.c0
    replace hA1 : w18.cell? ⟨BhA, 1, none⟩ = some (.int .i64 vB) := hA.c1
    replace hA2 : w18.cell? ⟨BhA, 2, none⟩ = some (.int .i64 eB) := hA.c2
    replace hAf := hA.fz
    replace hC0 : w18.cell? ⟨BhC, 0, none⟩ = some (.string dB) := hC.c0
    replace hC1 : w18.cell? ⟨BhC, 1, none⟩ = some (.int .i64 vB) := hC.c1
    replace hC2 : w18.cell? ⟨BhC, 2, none⟩ = some (.int .i64 eB) := hC.c2
    replace hCf := hC.fz
    replace hD0 : w18.cell? ⟨BhD, 0, none⟩ = some (.string dU) := hD.c0
    replace hD1 : w18.cell? ⟨BhD, 1, none⟩ = some (.int .i64 vU) := hD.c1
    replace hD2 : w18.cell? ⟨BhD, 2, none⟩ = some (.int .i64 eU) := hD.c2
    replace hDf := hD.fz
    refine (K2.out _).mono ?_; rintro e w19 ⟨rfl, hb⟩
    replace HB := Lib.hid (HB.out.trans (hb.mono HB.out.size))
    replace hP := hP.below hb
    replace hA := hA.below hb
    replace hC := hC.below hb
    replace hD := hD.below hb
    replace hP0 : w19.cell? ⟨BhP, 0, none⟩ = some (.string d) := hP.c0
    replace hP1 : w19.cell? ⟨BhP, 1, none⟩ = some (.int .i64 v) := hP.c1
    replace hP2 : w19.cell? ⟨BhP, 2, none⟩ = some (.int .i64 e) := hP.c2
    replace hPf := hP.fz
    replace hA0 : w19.cell? ⟨BhA, 0, none⟩ = some (.string dB) := hA.c0
    replace hA1 : w19.cell? ⟨BhA, 1, none⟩ = some (.int .i64 vB) := hA.c1
    replace hA2 : w19.cell? ⟨BhA, 2, none⟩ = some (.int .i64 eB) := hA.c2
    replace hAf := hA.fz
    replace hC0 : w19.cell? ⟨BhC, 0, none⟩ = some (.string dB) := hC.c0
    replace hC1 : w19.cell? ⟨BhC, 1, none⟩ = some (.int .i64 vB) := hC.c1
    replace hC2 : w19.cell? ⟨BhC, 2, none⟩ = some (.int .i64 eB) := hC.c2
    replace hCf := hC.fz
    replace hD0 : w19.cell? ⟨BhD, 0, none⟩ = some (.string dU) := hD.c0
    replace hD1 : w19.cell? ⟨BhD, 1, none⟩ = some (.int .i64 vU) := hD.c1
    replace hD2 : w19.cell? ⟨BhD, 2, none⟩ = some (.int .i64 eU) := hD.c2
    replace hDf := hD.fz
    clear hb
    have hPlt := hP.lt
    have hAlt := hA.lt
    have hClt := hC.lt
    have hDlt := hD.lt
    go_wp2_with fail
    clear hPlt hAlt hClt hDlt
    have hF := Hs.new w19 dF vF eF
    have hPhF : w19.heap.size ≠ BhP := by have := hP.lt; omega
    have hFhP : BhP ≠ w19.heap.size := by have := hP.lt; omega
    have hAhF : w19.heap.size ≠ BhA := by have := hA.lt; omega
    have hFhA : BhA ≠ w19.heap.size := by have := hA.lt; omega
    have hChF : w19.heap.size ≠ BhC := by have := hC.lt; omega
    have hFhC : BhC ≠ w19.heap.size := by have := hC.lt; omega
    have hDhF : w19.heap.size ≠ BhD := by have := hD.lt; omega
    have hFhD : BhD ≠ w19.heap.size := by have := hD.lt; omega
    replace hP := hP.alloc (.cells #[.string dF, .int .i64 vF, .int .i64 eF] 27)
    replace hA := hA.alloc (.cells #[.string dF, .int .i64 vF, .int .i64 eF] 27)
    replace hC := hC.alloc (.cells #[.string dF, .int .i64 vF, .int .i64 eF] 27)
    replace hD := hD.alloc (.cells #[.string dF, .int .i64 vF, .int .i64 eF] 27)
    have hFw : w.heap.size ≤ w19.heap.size := HB.out.size
    replace HB := Lib.hid (HB.out.alloc HB.out.size (.cells #[.string dF, .int .i64 vF, .int .i64 eF] 27))
    clear hP0 hP1 hP2 hPf hA0 hA1 hA2 hAf hC0 hC1 hC2 hCf hD0 hD1 hD2 hDf
    generalize w19.alloc (.cells #[.string dF, .int .i64 vF, .int .i64 eF] 27) = w20 at *
    generalize w19.heap.size = BhF at *
    replace hP0 : w20.cell? ⟨BhP, 0, none⟩ = some (.string d) := hP.c0
    replace hP1 : w20.cell? ⟨BhP, 1, none⟩ = some (.int .i64 v) := hP.c1
    replace hP2 : w20.cell? ⟨BhP, 2, none⟩ = some (.int .i64 e) := hP.c2
    replace hPf := hP.fz
    replace hA0 : w20.cell? ⟨BhA, 0, none⟩ = some (.string dB) := hA.c0
    replace hA1 : w20.cell? ⟨BhA, 1, none⟩ = some (.int .i64 vB) := hA.c1
    replace hA2 : w20.cell? ⟨BhA, 2, none⟩ = some (.int .i64 eB) := hA.c2
    replace hAf := hA.fz
    replace hC0 : w20.cell? ⟨BhC, 0, none⟩ = some (.string dB) := hC.c0
    replace hC1 : w20.cell? ⟨BhC, 1, none⟩ = some (.int .i64 vB) := hC.c1
    replace hC2 : w20.cell? ⟨BhC, 2, none⟩ = some (.int .i64 eB) := hC.c2
    replace hCf := hC.fz
    replace hD0 : w20.cell? ⟨BhD, 0, none⟩ = some (.string dU) := hD.c0
    replace hD1 : w20.cell? ⟨BhD, 1, none⟩ = some (.int .i64 vU) := hD.c1
    replace hD2 : w20.cell? ⟨BhD, 2, none⟩ = some (.int .i64 eU) := hD.c2
    replace hDf := hD.fz
    replace hF0 : w20.cell? ⟨BhF, 0, none⟩ = some (.string dF) := hF.c0
    replace hF1 : w20.cell? ⟨BhF, 1, none⟩ = some (.int .i64 vF) := hF.c1
    replace hF2 : w20.cell? ⟨BhF, 2, none⟩ = some (.int .i64 eF) := hF.c2
    replace hFf := hF.fz
    refine (K3.out _).mono ?_; rintro e w21 ⟨rfl, hb⟩
    replace HB := Lib.hid (HB.out.trans (hb.mono HB.out.size))
    replace hP := hP.below hb
    replace hA := hA.below hb
    replace hC := hC.below hb
    replace hD := hD.below hb
    replace hF := hF.below hb
    replace hP0 : w21.cell? ⟨BhP, 0, none⟩ = some (.string d) := hP.c0
    replace hP1 : w21.cell? ⟨BhP, 1, none⟩ = some (.int .i64 v) := hP.c1
    replace hP2 : w21.cell? ⟨BhP, 2, none⟩ = some (.int .i64 e) := hP.c2
    replace hPf := hP.fz
    replace hA0 : w21.cell? ⟨BhA, 0, none⟩ = some (.string dB) := hA.c0
    replace hA1 : w21.cell? ⟨BhA, 1, none⟩ = some (.int .i64 vB) := hA.c1
    replace hA2 : w21.cell? ⟨BhA, 2, none⟩ = some (.int .i64 eB) := hA.c2
    replace hAf := hA.fz
    replace hC0 : w21.cell? ⟨BhC, 0, none⟩ = some (.string dB) := hC.c0
    replace hC1 : w21.cell? ⟨BhC, 1, none⟩ = some (.int .i64 vB) := hC.c1
    replace hC2 : w21.cell? ⟨BhC, 2, none⟩ = some (.int .i64 eB) := hC.c2
    replace hCf := hC.fz
    replace hD0 : w21.cell? ⟨BhD, 0, none⟩ = some (.string dU) := hD.c0
    replace hD1 : w21.cell? ⟨BhD, 1, none⟩ = some (.int .i64 vU) := hD.c1
    replace hD2 : w21.cell? ⟨BhD, 2, none⟩ = some (.int .i64 eU) := hD.c2
    replace hDf := hD.fz
    replace hF0 : w21.cell? ⟨BhF, 0, none⟩ = some (.string dF) := hF.c0
    replace hF1 : w21.cell? ⟨BhF, 1, none⟩ = some (.int .i64 vF) := hF.c1
    replace hF2 : w21.cell? ⟨BhF, 2, none⟩ = some (.int .i64 eF) := hF.c2
    replace hFf := hF.fz
    clear hb
    have hPlt := hP.lt
    have hAlt := hA.lt
    have hClt := hC.lt
    have hDlt := hD.lt
    have hFlt := hF.lt
    go_wp2_with fail
    clear hPlt hAlt hClt hDlt hFlt
    clear hP0 hP1 hP2 hPf hA0 hA1 hA2 hAf hC0 hC1 hC2 hCf hD0 hD1 hD2 hDf hF0 hF1 hF2 hFf
    replace hF := hF.put dU vU eU
    replace hP := hP.other (show BhP ≠ BhF from by assumption) dU vU eU
    replace hA := hA.other (show BhA ≠ BhF from by assumption) dU vU eU
    replace hC := hC.other (show BhC ≠ BhF from by assumption) dU vU eU
    replace hD := hD.other (show BhD ≠ BhF from by assumption) dU vU eU
    replace HB := Lib.hid (HB.out.trans (put3_below hFw (d := dU) (v := vU) (e := eU)))
    have hW : Hid (((w21.setCell ⟨BhF, 0, none⟩ (.string dU)).setCell ⟨BhF, 1, none⟩ (.int .i64 vU)).setCell ⟨BhF, 2, none⟩ (.int .i64 eU) = put3 w21 BhF dU vU eU) := rfl
    rw [hW.out]; clear hW
    generalize put3 w21 BhF dU vU eU = w22 at *
    replace hP0 : w22.cell? ⟨BhP, 0, none⟩ = some (.string d) := hP.c0
    replace hP1 : w22.cell? ⟨BhP, 1, none⟩ = some (.int .i64 v) := hP.c1
    replace hP2 : w22.cell? ⟨BhP, 2, none⟩ = some (.int .i64 e) := hP.c2
    replace hPf := hP.fz
    replace hA0 : w22.cell? ⟨BhA, 0, none⟩ = some (.string dB) := hA.c0
    replace hA1 : w22.cell? ⟨BhA, 1, none⟩ = some (.int .i64 vB) := hA.c1
    replace hA2 : w22.cell? ⟨BhA, 2, none⟩ = some (.int .i64 eB) := hA.c2
    replace hAf := hA.fz
    replace hC0 : w22.cell? ⟨BhC, 0, none⟩ = some (.string dB) := hC.c0
    replace hC1 : w22.cell? ⟨BhC, 1, none⟩ = some (.int .i64 vB) := hC.c1
    replace hC2 : w22.cell? ⟨BhC, 2, none⟩ = some (.int .i64 eB) := hC.c2
    replace hCf := hC.fz
    replace hD0 : w22.cell? ⟨BhD, 0, none⟩ = some (.string dU) := hD.c0
    replace hD1 : w22.cell? ⟨BhD, 1, none⟩ = some (.int .i64 vU) := hD.c1
    replace hD2 : w22.cell? ⟨BhD, 2, none⟩ = some (.int .i64 eU) := hD.c2
    replace hDf := hD.fz
    replace hF0 : w22.cell? ⟨BhF, 0, none⟩ = some (.string dU) := hF.c0
    replace hF1 : w22.cell? ⟨BhF, 1, none⟩ = some (.int .i64 vU) := hF.c1
    replace hF2 : w22.cell? ⟨BhF, 2, none⟩ = some (.int .i64 eU) := hF.c2
    replace hFf := hF.fz
    refine (awake_any _).mono ?_; rintro e w23 ⟨rfl, hb⟩
    replace HB := Lib.hid (HB.out.trans (hb.mono HB.out.size))
    replace hP := hP.below hb
    replace hA := hA.below hb
    replace hC := hC.below hb
    replace hD := hD.below hb
    replace hF := hF.below hb
    replace hP0 : w23.cell? ⟨BhP, 0, none⟩ = some (.string d) := hP.c0
    replace hP1 : w23.cell? ⟨BhP, 1, none⟩ = some (.int .i64 v) := hP.c1
    replace hP2 : w23.cell? ⟨BhP, 2, none⟩ = some (.int .i64 e) := hP.c2
    replace hPf := hP.fz
    replace hA0 : w23.cell? ⟨BhA, 0, none⟩ = some (.string dB) := hA.c0
    replace hA1 : w23.cell? ⟨BhA, 1, none⟩ = some (.int .i64 vB) := hA.c1
    replace hA2 : w23.cell? ⟨BhA, 2, none⟩ = some (.int .i64 eB) := hA.c2
    replace hAf := hA.fz
    replace hC0 : w23.cell? ⟨BhC, 0, none⟩ = some (.string dB) := hC.c0
    replace hC1 : w23.cell? ⟨BhC, 1, none⟩ = some (.int .i64 vB) := hC.c1
    replace hC2 : w23.cell? ⟨BhC, 2, none⟩ = some (.int .i64 eB) := hC.c2
    replace hCf := hC.fz
    replace hD0 : w23.cell? ⟨BhD, 0, none⟩ = some (.string dU) := hD.c0
    replace hD1 : w23.cell? ⟨BhD, 1, none⟩ = some (.int .i64 vU) := hD.c1
    replace hD2 : w23.cell? ⟨BhD, 2, none⟩ = some (.int .i64 eU) := hD.c2
    replace hDf := hD.fz
    replace hF0 : w23.cell? ⟨BhF, 0, none⟩ = some (.string dU) := hF.c0
    replace hF1 : w23.cell? ⟨BhF, 1, none⟩ = some (.int .i64 vU) := hF.c1
    replace hF2 : w23.cell? ⟨BhF, 2, none⟩ = some (.int .i64 eU) := hF.c2
    replace hFf := hF.fz
    clear hb
    go_wp2_with fail
    go_ret
    exact RetW.mk rfl HB.out
end Go.Proofs.Ythimcidkmnobnaa
