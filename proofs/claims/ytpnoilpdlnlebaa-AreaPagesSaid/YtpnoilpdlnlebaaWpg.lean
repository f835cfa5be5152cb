/- The walk of AreaPages. -/
import Derived.Test.YtpnoilpdlnlebaaMd
namespace Go.Proofs.Ytpnoilpdlnlebaa
open Go.ChangeShapes Go.WideShapes Go.ChangeAt Go.RowKit

theorem Mid.new {w0 wx : World} {T : Nat} {a : Option Addr} {len cap : Nat} {b b2 : Option Addr} {c c2 : Nat} {l l2 : List Ar} {W W' : World} (h : Mid w0 wx T a len cap b c l W) (hb : Below W.heap.size W W') (hr : ARow W.heap.size b2 c2 l2 W') : Mid w0 wx T a len cap b2 c2 l2 W' :=
  ⟨(h.below hb).bel, hr.mono (Nat.zero_le _), (h.below hb).tp, h.lo, fun g hg => by have := (hr.blk hg).1; have := h.tp.hi; omega⟩
theorem Mid.next {w0 wx : World} {T : Nat} {a : Option Addr} {len cap : Nat} {b : Option Addr} {c : Nat} {l : List Ar} {W : World} (h : Mid w0 wx T a len cap b c l W) (n : Int) (h1 : 1 ≤ n) (h2 : n ≤ 1000000) :
    Calls Try.prog 8 #[.pointer (some ⟨T, 0, none⟩), .int .i64 n] W fun e' w' => ∃ r : Int, 0 ≤ r ∧ r < n ∧ e' = .returned (.int .i64 r) ∧ Mid w0 wx T a len cap b c l w' :=
  (next_tp n _ _ _ _ _ _ h1 h2 h.tp).mono fun _ _ ⟨r, h0, h1, he, hk, tp⟩ => ⟨r, h0, h1, he, h.tick hk tp⟩
theorem ins_pages {l : List Ar} {a : Ar} (h : checkV l = true) (ha : rightB a = true) (hf : Free l a.st a.cn) (h8 : l.length < 8) (i : Int) :
    (a.st ≤ i ∧ i < a.st + a.cn → findV l i = none ∧ findV (insS a l) i = some a) ∧ (¬ (a.st ≤ i ∧ i < a.st + a.cn) → findV (insS a l) i = findV l i) := by
  have hi := ins_find h ha hf h8 i
  constructor
  · intro hin
    have hb : inB i a = true := by unfold inB; exact decide_eq_true hin
    rw [if_pos hb] at hi
    refine ⟨?_, hi⟩
    cases hl : findV l i with
    | none => rfl
    | some x =>
      obtain ⟨hx, hxi⟩ := (find_iff h).1 hl
      unfold inB at hxi
      have hxi := of_decide_eq_true hxi
      exact absurd ⟨by omega, by omega⟩ (hf x hx)
  · intro hout
    rw [if_neg (by unfold inB; simpa using hout)] at hi
    exact hi
theorem out_pages {l : List Ar} {s n : Int} (h : checkV l = true) (hw : withinB s n 64 = true) (h8 : ¬ 8 < (outTo l s n l.length).length) (i : Int) :
    (s ≤ i ∧ i < s + n → findV (outTo l s n l.length) i = none) ∧ (¬ (s ≤ i ∧ i < s + n) → (findV (outTo l s n l.length) i).isSome = (findV l i).isSome ∧ (optA (findV (outTo l s n l.length) i)).fi = (optA (findV l i)).fi ∧ (optA (findV (outTo l s n l.length) i)).pg + i - (optA (findV (outTo l s n l.length) i)).st = (optA (findV l i)).pg + i - (optA (findV l i)).st ∧ (optA (findV (outTo l s n l.length) i)).wr = (optA (findV l i)).wr) := by
  have hwn := within_num hw
  constructor
  · rintro ⟨h0, h1⟩
    exact out_find_in h hwn.2.1 h8 h0 h1
  · intro ho
    rcases out_find_out h hw h8 (i := i) (by omega) with ⟨e1, e2⟩ | ⟨x, e1, _, y, e2, e3, e4, e5⟩
    · rw [e1, e2]; exact ⟨rfl, rfl, rfl, rfl⟩
    · rw [e1, e2]
      refine ⟨rfl, e3, ?_, e4⟩
      show y.pg + i - y.st = x.pg + i - x.st
      omega
set_option maxRecDepth 100000 in
set_option maxHeartbeats 16000000 in
theorem pages_walk (a0 : Option Addr) (len0 cap0 : Nat) (a1 : Option Addr) (len1 cap1 : Nat) (w : World) (ha : ArgRow w a0 len0) (hl : len0 ≤ maxLen) (ha1 : ArgRow w a1 len1) (hl1 : len1 ≤ maxLen) :
    Calls Try.prog 4 #[.slice a0 len0 cap0, .slice a1 len1 cap1] w (RetW (.bool true) w) := by
  have HT : Hid (TP w w.heap.size a0 len0 cap0 (w.alloc (.cells #[.slice a0 len0 cap0, .int .i64 0] 25))) := tape_start w a0 len0 cap0 ha hl
  have HT2 : Hid (∀ W, Below w.heap.size w W → TP w W.heap.size a1 len1 cap1 (W.alloc (.cells #[.slice a1 len1 cap1, .int .i64 0] 25))) := fun W hb => tape_at W a1 len1 cap1 ha1 hl1 hb
  go_enter Try.func4, Try.ntmps4
  go_wp2_with fail
  generalize w.alloc (.cells #[.slice a0 len0 cap0, .int .i64 0] 25) = w1 at *
  refine (areas_any _ _ _ _ _ _ HT.out).mono ?_
  rintro e w2 ⟨b, c, l, rfl, hc, hl5, hr, hk, tp⟩
  have HB := Lib.hid tp.bel
  have hm : Mid w w w2.heap.size a1 len1 cap1 b c l (w2.alloc (.cells #[.slice a1 len1 cap1, .int .i64 0] 25)) :=
    ⟨HB.out.alloc HB.out.size _, (hr.mono (Nat.zero_le _)).below ((Below.refl _ _).alloc (Nat.le_refl _) _), HT2.out _ tp.bel, HB.out.size, fun g hg => by have := (hr.blk hg).2; omega⟩
  have HM := Lib.hid hm
  have HC := Lib.hid hc
  clear HT HT2 hr hk tp hm hc HB
  go_wp2_with fail
  generalize w2.alloc (.cells #[.slice a1 len1 cap1, .int .i64 0] 25) = w3 at *
  generalize hT : w2.heap.size = T at *
  clear hT
  go_loopw [5, 7] (fun v5 v7 wr => ∃ (k : Nat) (b : Option Addr) (c : Nat) (l : List Ar), k ≤ 5 ∧ v7 = .int .i64 k ∧ v5 = .slice b l.length c ∧ Hid (checkV l = true) ∧ Hid (Mid w w T a1 len1 cap1 b c l wr)) (fun _ v7 _ => 100 - (intOf v7).toNat)
  case atStart => exact ⟨0, b, c, l, by omega, rfl, rfl, HC, HM⟩
  case round =>
    clear HM HC hl5
    obtain ⟨k, b, c, l, hk, rfl, rfl, HC, HM⟩ := hrel
    have hl8 := check_len HC.out
    by_cases hk5 : k < 5
    · have hk5' : (k : Int) < 5 := by omega
      go_wp2_with fail
      refine (HM.out.next 2 (by omega) (by omega)).mono ?_
      rintro e w4 ⟨r0, r00, r01, rfl, hm⟩
      replace HM := Lib.hid hm
      clear hm
      by_cases hr0 : r0 = 0
      · subst hr0
        go_wp2_with fail
        refine (HM.out.next 6 (by omega) (by omega)).mono ?_
        rintro e w4 ⟨r1, r10, r11, rfl, hm⟩
        replace HM := Lib.hid hm
        clear hm
        have hw1 : IntKind.i64.wrap (1 + r1) = 1 + r1 := IntWalk.i64_in _ (by omega)
        go_wp2_with fail
        refine (room_any 0 b l c (1 + r1) w4 HM.out.row (by omega)).mono ?_
        rintro e w5 ⟨rfl, hb⟩
        replace HM := Lib.hid (HM.out.below hb)
        have HRF := Lib.hid (fun p hp => room_free (n := 1 + r1) (p := p) HC.out hp)
        clear hb
        generalize roomV l (1 + r1) = R at *
        obtain ⟨p, ok⟩ := R
        cases ok with
        | false =>
          go_wp2_with fail
          go_roundw
          case rel => exact ⟨k + 1, b, c, l, by omega, by go_num, rfl, HC, HM⟩
          case measure => simp [intOf]; omega
        | true =>
          obtain ⟨q0, q1, q2, hfree⟩ := HRF.out p rfl
          have HFR := Lib.hid hfree
          clear HRF hfree
          go_wp2_with fail
          refine (HM.out.next 4 (by omega) (by omega)).mono ?_
          rintro e w6 ⟨f, f0, f1, rfl, hm⟩
          replace HM := Lib.hid hm
          clear hm
          have hw2 : IntKind.i64.wrap (8 - (1 + r1)) = 8 - (1 + r1) := IntWalk.i64_in _ (by omega)
          have hw3 : IntKind.i64.wrap (8 - (1 + r1) + 1) = 8 - (1 + r1) + 1 := IntWalk.i64_in _ (by omega)
          go_wp2_with fail
          refine (HM.out.next (8 - (1 + r1) + 1) (by omega) (by omega)).mono ?_
          rintro e w7 ⟨g, g0, g1, rfl, hm⟩
          replace HM := Lib.hid hm
          clear hm
          go_wp2_with fail
          refine (HM.out.next 2 (by omega) (by omega)).mono ?_
          rintro e w8 ⟨z, z0, z1, rfl, hm⟩
          replace HM := Lib.hid hm
          clear hm
          go_wp2_with fail
          have B1 := Blk.new w8 p (1 + r1) f g (z == 0)
          have hal := (Below.refl w8.heap.size w8).alloc (Nat.le_refl _) (Obj.cells #[Value.int IntKind.i64 p, Value.int IntKind.i64 (1 + r1), Value.int IntKind.i64 f, Value.int IntKind.i64 g, Value.bool (z == 0)] 30)
          replace HM := Lib.hid (HM.out.below hal)
          clear hal
          generalize w8.alloc (Obj.cells #[Value.int IntKind.i64 p, Value.int IntKind.i64 (1 + r1), Value.int IntKind.i64 f, Value.int IntKind.i64 g, Value.bool (z == 0)] 30) = w9 at *
          generalize w8.heap.size = A at *
          generalize (z == 0) = wb at *
          have hrb : rightB ⟨p, 1 + r1, f, g, wb⟩ = true := by
            unfold rightB
            exact decide_eq_true ⟨q0, q1, q2, g0, by show g + (1 + r1) ≤ 8; omega, f0, by show f < 8; omega⟩
          have hmap := map_any 0 b l c ⟨p, 1 + r1, f, g, wb⟩ w9 HM.out.row (by omega) (insOK_any _ (by omega))
          have hmf := map_free HC.out hrb HFR.out
          rw [hmf] at hmap
          unfold arVal at hmap
          simp only at hmap
          clear hmf
          by_cases h8 : l.length = 8
          · rw [if_pos h8] at hmap
            refine hmap.mono ?_
            clear hmap
            rintro e w10 ⟨b2, c2, rfl, hry, hb⟩
            replace HM := Lib.hid (HM.out.new hb hry)
            clear hry hb B1
            have h8' : ¬ (l.length : Int) < 8 := by omega
            go_wp2_with fail
            go_loopw [14] (fun v14 wr => v14 = .int .i64 0 ∧ wr = w10) (fun _ _ => 0)
            case atStart => exact ⟨rfl, rfl⟩
            case round =>
              obtain ⟨rfl, rfl⟩ := hrel
              go_wp2_with fail
              go_roundw
              case rel => exact ⟨k + 1, b2, c2, l, by omega, by go_num, by rw [h8], HC, HM⟩
              case measure => simp [intOf]; omega
          · rw [if_neg h8] at hmap
            have hpg := fun i : Int => ins_pages HC.out hrb HFR.out (by omega) i
            have HYC := Lib.hid (ins_check HC.out hrb HFR.out (by omega))
            simp only at hpg
            refine hmap.mono ?_
            clear hmap
            generalize insS ⟨p, 1 + r1, f, g, wb⟩ l = y at *
            have HPG := Lib.hid hpg
            clear hpg hrb HFR
            have hy8 := check_len HYC.out
            rintro e w10 ⟨b2, c2, rfl, hry, hb⟩
            have B2 := B1.below hb
            have hm10 := HM.out.below hb
            have HSX : Hid (∀ q, 0 ≤ q → q ≤ 1000 → ∀ W, Below w10.heap.size w10 W → Calls Try.prog 25 #[.slice b l.length c, .int .i64 q] W (RetW (.tuple #[.int .i64 (optA (findV l q)).fi, .int .i64 ((optA (findV l q)).pg + q - (optA (findV l q)).st), .bool (optA (findV l q)).wr, .bool (findV l q).isSome]) W)) := fun q h1 h2 W hb => shows_any _ b l c q W (hm10.row.below hb) (by omega) h1 h2
            have HSY : Hid (∀ q, 0 ≤ q → q ≤ 1000 → ∀ W, Below w10.heap.size w10 W → Calls Try.prog 25 #[.slice b2 y.length c2, .int .i64 q] W (RetW (.tuple #[.int .i64 (optA (findV y q)).fi, .int .i64 ((optA (findV y q)).pg + q - (optA (findV y q)).st), .bool (optA (findV y q)).wr, .bool (findV y q).isSome]) W)) := fun q h1 h2 W hb => shows_any _ b2 y c2 q W (hry.below hb) (by omega) h1 h2
            have HBK : Hid (∀ W, Below w10.heap.size w10 W → Blk W A ⟨p, 1 + r1, f, g, wb⟩) := fun W hb => B2.below hb
            replace HM := Lib.hid (HM.out.new hb hry)
            clear hry hb B1 B2 hm10
            have h8' : (l.length : Int) < 8 := by omega
            have hw4 : IntKind.i64.wrap (p + (1 + r1)) = p + (1 + r1) := IntWalk.i64_in _ (by omega)
            go_wp2_with fail
            go_loopw [14] (fun v14 wr => ∃ i : Nat, i ≤ 64 ∧ v14 = .int .i64 i ∧ Hid (Below w10.heap.size w10 wr)) (fun v14 _ => 100 - (intOf v14).toNat)
            case atStart => exact ⟨0, by omega, rfl, Below.refl _ _⟩
            case round => as_aux_lemma =>
              obtain ⟨i, hi, rfl, HW⟩ := hrel
              by_cases hi64 : i < 64
              · have hi64' : (i : Int) < 64 := by omega
                obtain ⟨pin, pout⟩ := HPG.out i
                have sx := HSX.out i (by omega) (by omega)
                have sy := HSY.out i (by omega) (by omega)
                have bk := HBK.out
                clear HPG HSX HSY HBK
                by_cases hin : p ≤ (i : Int) ∧ (i : Int) < p + (1 + r1)
                · obtain ⟨e1, e2⟩ := pin hin
                  rw [e1] at sx
                  rw [e2] at sy
                  have SX : Hid (∀ W, Below w10.heap.size w10 W → Calls Try.prog 25 #[.slice b l.length c, .int .i64 i] W (RetW (.tuple #[.int .i64 0, .int .i64 (0 + i - 0), .bool false, .bool false]) W)) := sx
                  have SY : Hid (∀ W, Below w10.heap.size w10 W → Calls Try.prog 25 #[.slice b2 y.length c2, .int .i64 i] W (RetW (.tuple #[.int .i64 f, .int .i64 (g + i - p), .bool wb, .bool true]) W)) := sy
                  have BK := Lib.hid bk
                  clear sx sy pin pout e1 e2 bk
                  obtain ⟨hi1, hi2⟩ := hin
                  have hw5 : IntKind.i64.wrap (g + i) = g + i := IntWalk.i64_in _ (by omega)
                  have hw6 : IntKind.i64.wrap (g + i - p) = g + i - p := IntWalk.i64_in _ (by omega)
                  go_wp2_with fail
                  refine (SY.out _ HW.out).mono ?_
                  rintro e wa ⟨rfl, hb⟩
                  replace HW := Lib.hid (HW.out.trans (hb.mono HW.out.size))
                  clear hb
                  go_wp2_with fail
                  refine (SX.out _ HW.out).mono ?_
                  rintro e wa ⟨rfl, hb⟩
                  replace HW := Lib.hid (HW.out.trans (hb.mono HW.out.size))
                  clear hb
                  have bb := BK.out _ HW.out
                  have m0 := bb.c0; have m1 := bb.c1; have m2 := bb.c2; have m3 := bb.c3; have m4 := bb.c4
                  simp only at m0 m1 m2 m3 m4
                  clear bb
                  go_wp2_with fail
                  go_roundw
                  case rel => exact ⟨i + 1, by omega, by go_num, HW⟩
                  case measure => simp [intOf]; omega
                · rw [pout hin] at sy
                  have SX := Lib.hid sx
                  have SY := Lib.hid sy
                  clear sx sy pin pout bk
                  generalize (optA (findV l i)).fi = F at *
                  generalize (optA (findV l i)).pg + (i : Int) - (optA (findV l i)).st = Q at *
                  generalize (optA (findV l i)).wr = V at *
                  generalize (findV l i).isSome = OK at *
                  go_wp2_with fail
                  refine (SY.out _ HW.out).mono ?_
                  rintro e wa ⟨rfl, hb⟩
                  replace HW := Lib.hid (HW.out.trans (hb.mono HW.out.size))
                  clear hb
                  go_wp2_with fail
                  refine (SX.out _ HW.out).mono ?_
                  rintro e wa ⟨rfl, hb⟩
                  replace HW := Lib.hid (HW.out.trans (hb.mono HW.out.size))
                  clear hb
                  by_cases hlo : p ≤ (i : Int)
                  · have hhi : p + (1 + r1) ≤ (i : Int) := by omega
                    cases OK <;>
                    · go_wp2_with fail
                      go_roundw
                      case rel => exact ⟨i + 1, by omega, by go_num, HW⟩
                      case measure => simp [intOf]; omega
                  · have hlo' : (i : Int) < p := by omega
                    cases OK <;>
                    · go_wp2_with fail
                      go_roundw
                      case rel => exact ⟨i + 1, by omega, by go_num, HW⟩
                      case measure => simp [intOf]; omega
              · obtain rfl : i = 64 := by omega
                replace HM := Lib.hid (HM.out.below HW.out)
                go_wp2_with fail
                go_roundw
                case rel => exact ⟨k + 1, b2, c2, y, by omega, by go_num, rfl, HYC, HM⟩
                case measure => simp [intOf]; omega
      · have n0 : (r0 == 0) = false := by simpa using hr0
        go_wp2_with fail
        refine (HM.out.next 24 (by omega) (by omega)).mono ?_
        rintro e w4 ⟨s, s0, s1, rfl, hm⟩
        replace HM := Lib.hid hm
        clear hm
        go_wp2_with fail
        refine (HM.out.next 8 (by omega) (by omega)).mono ?_
        rintro e w5 ⟨m, m0, m1, rfl, hm⟩
        replace HM := Lib.hid hm
        clear hm
        have hw1 : IntKind.i64.wrap (1 + m) = 1 + m := IntWalk.i64_in _ (by omega)
        have hw2 : IntKind.i64.wrap (s + (1 + m)) = s + (1 + m) := IntWalk.i64_in _ (by omega)
        have hun := unmap_any 0 b l c s (1 + m) w5 HM.out.row (by omega)
        have hwi : withinB s (1 + m) 64 = true := within_of s0 (by omega) (by omega)
        rw [unmap_ok HC.out hwi] at hun
        by_cases h8 : 8 < (outTo l s (1 + m) l.length).length
        · rw [if_pos h8] at hun
          have HUN := Lib.hid hun
          clear hun hwi h8
          go_wp2_with fail
          refine HUN.out.mono ?_
          rintro e w6 ⟨b2, c2, rfl, _, hb⟩
          replace HM := Lib.hid (HM.out.below hb)
          clear hb HUN
          go_wp2_with fail
          go_roundw
          case rel => exact ⟨k + 1, b, c, l, by omega, by go_num, rfl, HC, HM⟩
          case measure => simp [intOf]; omega
        · rw [if_neg h8] at hun
          have hpg := fun i : Int => out_pages HC.out hwi h8 i
          have HYC := Lib.hid (out_check HC.out (by omega : (1 : Int) ≤ 1 + m) h8)
          clear h8 hwi
          generalize outTo l s (1 + m) l.length = y at *
          have HUN := Lib.hid hun
          have HPG := Lib.hid hpg
          have hy8 := check_len HYC.out
          clear hun hpg
          go_wp2_with fail
          refine HUN.out.mono ?_
          rintro e w10 ⟨b2, c2, rfl, hry, hb⟩
          have hm10 := HM.out.below hb
          have HSX : Hid (∀ q, 0 ≤ q → q ≤ 1000 → ∀ W, Below w10.heap.size w10 W → Calls Try.prog 25 #[.slice b l.length c, .int .i64 q] W (RetW (.tuple #[.int .i64 (optA (findV l q)).fi, .int .i64 ((optA (findV l q)).pg + q - (optA (findV l q)).st), .bool (optA (findV l q)).wr, .bool (findV l q).isSome]) W)) := fun q h1 h2 W hb => shows_any _ b l c q W (hm10.row.below hb) (by omega) h1 h2
          have HSY : Hid (∀ q, 0 ≤ q → q ≤ 1000 → ∀ W, Below w10.heap.size w10 W → Calls Try.prog 25 #[.slice b2 y.length c2, .int .i64 q] W (RetW (.tuple #[.int .i64 (optA (findV y q)).fi, .int .i64 ((optA (findV y q)).pg + q - (optA (findV y q)).st), .bool (optA (findV y q)).wr, .bool (findV y q).isSome]) W)) := fun q h1 h2 W hb => shows_any _ b2 y c2 q W (hry.below hb) (by omega) h1 h2
          replace HM := Lib.hid (HM.out.new hb hry)
          clear hry hb hm10 HUN
          go_wp2_with fail
          go_loopw [27] (fun v27 wr => ∃ i : Nat, i ≤ 64 ∧ v27 = .int .i64 i ∧ Hid (Below w10.heap.size w10 wr)) (fun v27 _ => 100 - (intOf v27).toNat)
          case atStart => exact ⟨0, by omega, rfl, Below.refl _ _⟩
          case round => as_aux_lemma =>
            obtain ⟨i, hi, rfl, HW⟩ := hrel
            by_cases hi64 : i < 64
            · have hi64' : (i : Int) < 64 := by omega
              obtain ⟨pin, pout⟩ := HPG.out i
              have sx := HSX.out i (by omega) (by omega)
              have sy := HSY.out i (by omega) (by omega)
              clear HPG HSX HSY
              by_cases hin : s ≤ (i : Int) ∧ (i : Int) < s + (1 + m)
              · rw [pin hin] at sy
                have SX := Lib.hid sx
                have SY : Hid (∀ W, Below w10.heap.size w10 W → Calls Try.prog 25 #[.slice b2 y.length c2, .int .i64 i] W (RetW (.tuple #[.int .i64 0, .int .i64 (0 + i - 0), .bool false, .bool false]) W)) := sy
                clear sx sy pin pout
                obtain ⟨hi1, hi2⟩ := hin
                generalize (optA (findV l i)).fi = F at *
                generalize (optA (findV l i)).pg + (i : Int) - (optA (findV l i)).st = Q at *
                generalize (optA (findV l i)).wr = V at *
                generalize (findV l i).isSome = OK at *
                go_wp2_with fail
                refine (SY.out _ HW.out).mono ?_
                rintro e wa ⟨rfl, hb⟩
                replace HW := Lib.hid (HW.out.trans (hb.mono HW.out.size))
                clear hb
                go_wp2_with fail
                refine (SX.out _ HW.out).mono ?_
                rintro e wa ⟨rfl, hb⟩
                replace HW := Lib.hid (HW.out.trans (hb.mono HW.out.size))
                clear hb
                go_wp2_with fail
                go_roundw
                case rel => exact ⟨i + 1, by omega, by go_num, HW⟩
                case measure => simp [intOf]; omega
              · obtain ⟨p1, p2, p3, p4⟩ := pout hin
                rw [p1, p2, p3, p4] at sy
                have SX := Lib.hid sx
                have SY := Lib.hid sy
                clear sx sy pin pout p1 p2 p3 p4
                generalize (optA (findV l i)).fi = F at *
                generalize (optA (findV l i)).pg + (i : Int) - (optA (findV l i)).st = Q at *
                generalize (optA (findV l i)).wr = V at *
                generalize (findV l i).isSome = OK at *
                go_wp2_with fail
                refine (SY.out _ HW.out).mono ?_
                rintro e wa ⟨rfl, hb⟩
                replace HW := Lib.hid (HW.out.trans (hb.mono HW.out.size))
                clear hb
                go_wp2_with fail
                refine (SX.out _ HW.out).mono ?_
                rintro e wa ⟨rfl, hb⟩
                replace HW := Lib.hid (HW.out.trans (hb.mono HW.out.size))
                clear hb
                by_cases hlo : s ≤ (i : Int)
                · have hhi : s + (1 + m) ≤ (i : Int) := by omega
                  cases OK <;>
                  · go_wp2_with fail
                    go_roundw
                    case rel => exact ⟨i + 1, by omega, by go_num, HW⟩
                    case measure => simp [intOf]; omega
                · have hlo' : (i : Int) < s := by omega
                  cases OK <;>
                  · go_wp2_with fail
                    go_roundw
                    case rel => exact ⟨i + 1, by omega, by go_num, HW⟩
                    case measure => simp [intOf]; omega
            · obtain rfl : i = 64 := by omega
              replace HM := Lib.hid (HM.out.below HW.out)
              go_wp2_with fail
              go_roundw
              case rel => exact ⟨k + 1, b2, c2, y, by omega, by go_num, rfl, HYC, HM⟩
              case measure => simp [intOf]; omega
    · obtain rfl : k = 5 := by omega
      go_wp2_with fail
      refine (check_any 0 b l c _ HM.out.row (by omega)).mono ?_
      rintro e wa ⟨rfl, hb⟩
      replace HM := Lib.hid (HM.out.below hb)
      have hcc := HC.out
      clear hb HC
      rw [hcc]
      go_wp2_with fail
      refine (awake_any _).mono ?_
      rintro e wb ⟨rfl, hb⟩
      replace HM := Lib.hid (HM.out.below hb)
      clear hb
      go_wp2_with fail
      go_ret
      exact ⟨rfl, HM.out.bel⟩
end Go.Proofs.Ytpnoilpdlnlebaa
