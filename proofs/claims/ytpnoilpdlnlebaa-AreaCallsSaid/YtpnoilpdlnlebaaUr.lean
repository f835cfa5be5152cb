/- Unmapping as the document has it. -/
import Derived.Test.YtpnoilpdlnlebaaRr
namespace Go.Proofs.Ytpnoilpdlnlebaa
open Go.ChangeShapes Go.WideShapes Go.ChangeAt Go.RowKit

/-- the parts of an area as the document has them -/
theorem parts_eq {es ec ef ep s n : Int} {eb : Bool} (hr : rightB ⟨es, ec, ef, ep, eb⟩ = true) (hs : 0 ≤ s) (hn : 1 ≤ n) (hsn : s + n ≤ 64) :
    (partV ⟨es, ec, ef, ep, eb⟩ 0 s).toList = (if es < s then [⟨es, min (es + ec) s - es, ef, ep, eb⟩] else []) ∧
    (partV ⟨es, ec, ef, ep, eb⟩ (s + n) 64).toList = (if s + n < es + ec then [⟨max es (s + n), es + ec - max es (s + n), ef, ep + (max es (s + n) - es), eb⟩] else []) := by
  have hr := right_num hr
  simp only at hr
  constructor
  · by_cases h : es < s
    · rw [if_pos h, show partV ⟨es, ec, ef, ep, eb⟩ 0 s = some ⟨es, min (es + ec) s - es, ef, ep, eb⟩ from part_iff.2 ⟨by dsimp only; omega, Ar.ext' (by dsimp only; omega) (by dsimp only; omega) rfl (by dsimp only; omega) rfl⟩]
      rfl
    · rw [if_neg h, show partV ⟨es, ec, ef, ep, eb⟩ 0 s = none from by unfold partV; rw [if_pos (by dsimp only; omega)]]
      rfl
  · by_cases h : s + n < es + ec
    · rw [if_pos h, show partV ⟨es, ec, ef, ep, eb⟩ (s + n) 64 = some ⟨max es (s + n), es + ec - max es (s + n), ef, ep + (max es (s + n) - es), eb⟩ from part_iff.2 ⟨by dsimp only; omega, Ar.ext' (by dsimp only; omega) (by dsimp only; omega) rfl (by dsimp only; omega) rfl⟩]
      rfl
    · rw [if_neg h, show partV ⟨es, ec, ef, ep, eb⟩ (s + n) 64 = none from by unfold partV; rw [if_pos (by dsimp only; omega)]]
      rfl
theorem Blk.snd (w : World) (o1 : Obj) (s c f p : Int) (b : Bool) : Blk ((w.alloc o1).alloc (.cells #[.int .i64 s, .int .i64 c, .int .i64 f, .int .i64 p, .bool b] 30)) (w.heap.size + 1) ⟨s, c, f, p, b⟩ := by
  have h := Blk.new (w.alloc o1) s c f p b
  rw [show (w.alloc o1).heap.size = w.heap.size + 1 from by simp] at h
  exact h
theorem Blk.third (w : World) (o1 o2 : Obj) (s c f p : Int) (b : Bool) : Blk (((w.alloc o1).alloc o2).alloc (.cells #[.int .i64 s, .int .i64 c, .int .i64 f, .int .i64 p, .bool b] 30)) (w.heap.size + 1 + 1) ⟨s, c, f, p, b⟩ := by
  have h := Blk.new ((w.alloc o1).alloc o2) s c f p b
  rw [show ((w.alloc o1).alloc o2).heap.size = w.heap.size + 1 + 1 from by simp] at h
  exact h
theorem Blk.grown {W W' : World} {A : Nat} {a : Ar} {row : Option Nat} (h : Blk W A a) (hg : W.grownBy W' row) (hne : ¬ (some A = row)) : Blk W' A a := by
  have hb := hg.block A h.hi hne
  have hc : ∀ o, W'.cell? ⟨A, o, none⟩ = W.cell? ⟨A, o, none⟩ := fun o => World.cell?_of_block (w := W) (a := ⟨A, o, none⟩) hb
  have hf : ∀ o, W'.frozen? ⟨A, o, none⟩ = W.frozen? ⟨A, o, none⟩ := fun o => World.frozen?_of_block (w := W) (a := ⟨A, o, none⟩) hb
  exact ⟨Nat.lt_of_lt_of_le h.hi hg.size, by rw [hc]; exact h.c0, by rw [hc]; exact h.c1, by rw [hc]; exact h.c2, by rw [hc]; exact h.c3, by rw [hc]; exact h.c4, fun i hi => by rw [hf]; exact h.f i hi⟩
set_option maxHeartbeats 8000000 in
theorem unmapR_any (B : Nat) (a : Option Addr) (l : List Ar) (cap : Nat) (s n : Int) (w : World) (h : ARow B a cap l w) (hl : l.length ≤ 100) :
    Calls Try.prog 13 #[.slice a l.length cap, .int .i64 s, .int .i64 n] w fun e w' => ∃ b c, e = .returned (.tuple #[.slice b (unmapV l s n).1.length c, .int .i64 (unmapV l s n).2]) ∧ ARow 0 b c (unmapV l s n).1 w' ∧ Below w.heap.size w w' := by
  have HA : Hid (∀ W, Below w.heap.size w W → ∀ j, j < l.length → ∃ g, a = some ⟨g, 0, none⟩ ∧ g < W.heap.size ∧ (l.length : Int) ≤ cap ∧ Cel W g (j * 5) (l.getD j Ar.zero)) := by
    intro W hb j hj
    obtain ⟨g, h1, h2, h3, h4, h5, h6⟩ := (h.below hb).at (by omega)
    exact ⟨g, h1, h3, by omega, h6 j hj⟩
  have HROW : Hid (∀ W, Below w.heap.size w W → ARow 0 a cap l W) := fun W hb => (h.below hb).mono (Nat.zero_le _)
  have HCK := Lib.hid (checkR_any B a l cap w h hl)
  have HR : Hid (checkV l = true → ∀ j, j < l.length → rightB (l.getD j Ar.zero) = true) := fun hc j hj => (check_right hc j hj).1
  have HV1 : Hid (checkV l = false → unmapV l s n = (l, 1)) := fun hc => by unfold unmapV; rw [if_pos hc]
  have HV2 : Hid (checkV l = true → withinB s n 64 = false → unmapV l s n = (l, 2)) := fun hc hw => by unfold unmapV; rw [if_neg (by rw [hc]; simp), if_pos hw]
  have HV3 : Hid (checkV l = true → withinB s n 64 = true → unmapV l s n = if 8 < (outTo l s n l.length).length then (l, 3) else (outTo l s n l.length, 0)) := fun hc hw => unmap_ok hc hw
  have HW := Lib.hid (fun w => span_any s n w)
  have HWI : Hid (withinB s n 64 = true → 0 ≤ s ∧ 1 ≤ n ∧ s + n ≤ 64) := fun hw => within_num hw
  clear h
  go_enter Try.func13, Try.ntmps13
  go_wp2_with fail
  refine HCK.out.mono ?_; rintro e w1 ⟨rfl, hb⟩
  have HB := Lib.hid hb
  clear hb HCK
  cases hcv : checkV l with
  | false =>
    have HVV := Lib.hid (HV1.out hcv)
    clear HV1 HV2 HV3 HR
    go_wp2_with fail
    go_ret2
    exact ⟨a, cap, by rw [HVV.out]; rfl, by rw [HVV.out]; exact HROW.out _ HB.out, HB.out⟩
  | true =>
    have HR2 := Lib.hid (HR.out hcv)
    have HV4 := Lib.hid (HV2.out hcv)
    have HV5 := Lib.hid (HV3.out hcv)
    clear HV1 HV2 HV3 HR hcv
    go_wp2_with fail
    refine (HW.out _).mono ?_; rintro e w2 ⟨rfl, rfl⟩
    cases hwi : withinB s n 64 with
    | false =>
      have HVV := Lib.hid (HV4.out hwi)
      clear HV4 HV5
      go_wp2_with fail
      go_ret2
      exact ⟨a, cap, by rw [HVV.out]; rfl, by rw [HVV.out]; exact HROW.out _ HB.out, HB.out⟩
    | true =>
      have HVV := Lib.hid (HV5.out hwi)
      obtain ⟨s0, n0, sn⟩ := HWI.out hwi
      clear HV4 HV5 HWI HW hwi
      have hw1 : IntKind.i64.wrap (s + n) = s + n := IntWalk.i64_in _ (by omega)
      go_wp2_with fail
      obtain ⟨i0, hi, hz0, hz1, hz2⟩ := info_parts area_info
      go_loopw [9, 10] (fun v9 v10 wr => ∃ k : Nat, k ≤ l.length ∧ v10 = .int .i64 k ∧ Hid (Below w.heap.size w wr) ∧ Hid (wr.ownsRow w.heap.size 30 5 v9 (outTo l s n k).length (flat (outTo l s n k)))) (fun _ v10 _ => 200 - (intOf v10).toNat)
      case atStart => exact ⟨0, Nat.zero_le _, rfl, HB, World.ownsRow_nil _ _ _ _⟩
      case round =>
        clear HB
        obtain ⟨k, hk, rfl, HB, HO⟩ := hrel
        by_cases hlt : k < l.length
        · have hlt' : (k : Int) < (l.length : Int) := by omega
          obtain ⟨g, rfl, hg, hcap, hcel⟩ := HA.out _ HB.out k hlt
          have hre := HR2.out k hlt
          have hol := outTo_len l s n k
          have hos := outTo_succ l s n k hlt
          clear HA HVV HROW
          generalize l.getD k Ar.zero = e at *
          obtain ⟨es, ec, ef, ep, eb⟩ := e
          obtain ⟨k0, k1, k2, k3, k4⟩ := hcel
          simp only at k0 k1 k2 k3 k4
          obtain ⟨p1, p2⟩ := parts_eq hre s0 n0 sn
          rw [p1, p2] at hos
          have hrn := right_num hre
          simp only at hrn
          clear hre p1 p2
          generalize outTo l s n k = L at *
          have HLL : Hid (∀ x : Ar, (L ++ [x]).length ≤ 201) := fun x => by simp; omega
          have HOS := Lib.hid hos
          clear hos
          have hw2 : IntKind.i64.wrap (es + ec) = es + ec := IntWalk.i64_in _ (by omega)
          have hbs := HB.out.size
          have HAN : Hid (∀ x, u9.ownBlock = some x → x ≠ wr.heap.size) := fun x hx => by have := (HO.out.lt x hx).2; omega
          by_cases hc1 : es < s
          · go_wp2_with (at_builtin; refine wpList_append_own _ rfl _ _ 26 rfl w.heap.size 30 i0 _ 5 40 Try.underlying26 hi hz0 hz1 hz2 rfl (by decide) _ _ _ rfl (((HO.out.alloc (Obj.cells #[Value.int IntKind.i64 es, Value.int IntKind.i64 ec, Value.int IntKind.i64 ef, Value.int IntKind.i64 ep, Value.bool eb] 30)).alloc (Obj.cells #[Value.int IntKind.i64 es, Value.int IntKind.i64 (min (es + ec) s - es), Value.int IntKind.i64 ef, Value.int IntKind.i64 ep, Value.bool eb] 30)).alloc (Obj.cells #[Value.int IntKind.i64 es, Value.int IntKind.i64 (min (es + ec) s - es), Value.int IntKind.i64 ef, Value.int IntKind.i64 ep, Value.bool eb] 30)) ⟨wr.heap.size + 1 + 1, 0, none⟩ 1 1 [.int .i64 es, .int .i64 (min (es + ec) s - es), .int .i64 ef, .int .i64 ep, .bool eb] rfl rfl ?d1 ?d2 ?d3 ?d4 ?d5 ?_)
            try
              (case d1 =>
                intro j u hj
                rw [Addr.add_lit]
                exact cells_at (Blk.third wr _ _ es (min (es + ec) s - es) ef ep eb) j u hj)
            case d2 =>
              first
              | exact ⟨rfl, rfl, rfl, rfl, rfl⟩
              | (intro u hu
                 simp at hu
                 rcases hu with rfl | rfl | rfl | rfl | rfl <;> rfl)
            case d3 => unfold maxLen; (try simp); omega
            case d4 => (try simp); omega
            case d5 => have := HB.out.size; simp; omega
            intro vw9 w9 hown' hgrow _
            have hBn := (((HB.out.alloc HB.out.size (Obj.cells #[Value.int IntKind.i64 es, Value.int IntKind.i64 ec, Value.int IntKind.i64 ef, Value.int IntKind.i64 ep, Value.bool eb] 30)).alloc (by have := HB.out.size; simp; omega) (Obj.cells #[Value.int IntKind.i64 es, Value.int IntKind.i64 (min (es + ec) s - es), Value.int IntKind.i64 ef, Value.int IntKind.i64 ep, Value.bool eb] 30)).alloc (by have := HB.out.size; simp; omega) (Obj.cells #[Value.int IntKind.i64 es, Value.int IntKind.i64 (min (es + ec) s - es), Value.int IntKind.i64 ef, Value.int IntKind.i64 ep, Value.bool eb] 30)).grown hgrow (by have := HB.out.size; simp; omega) (fun x hx => (HO.out.lt x hx).1)
            have hOn : w9.ownsRow w.heap.size 30 5 vw9 (L ++ [(Ar.mk es (min (es + ec) s - es) ef ep eb)]).length (flat (L ++ [(Ar.mk es (min (es + ec) s - es) ef ep eb)])) := by
              rw [flat_append, flat_one]
              simp only [List.length_append, List.length_singleton]
              simpa [Ar.cells] using hown'
            have hE9 := (((Blk.new wr es ec ef ep eb).below ((Below.refl _ _).alloc (Nat.le_refl _) (Obj.cells #[Value.int IntKind.i64 es, Value.int IntKind.i64 (min (es + ec) s - es), Value.int IntKind.i64 ef, Value.int IntKind.i64 ep, Value.bool eb] 30))).below ((Below.refl _ _).alloc (Nat.le_refl _) (Obj.cells #[Value.int IntKind.i64 es, Value.int IntKind.i64 (min (es + ec) s - es), Value.int IntKind.i64 ef, Value.int IntKind.i64 ep, Value.bool eb] 30))).grown hgrow (fun h => HAN.out _ h.symm rfl)
            clear hown' hgrow HB HO HAN k0 k1 k2 k3 k4
            generalize wr.heap.size = A at *
            have HB := Lib.hid hBn
            have HO := Lib.hid hOn
            clear hBn hOn
            have hbs := HB.out.size
            rw [if_pos hc1] at HOS
            by_cases hc2 : s + n < es + ec
            · rw [if_pos hc2] at HOS
              have hl2 := HLL.out (Ar.mk es (min (es + ec) s - es) ef ep eb)
              generalize (L ++ [(Ar.mk es (min (es + ec) s - es) ef ep eb)]) = L2 at *
              
              have m0 := hE9.c0; have m1 := hE9.c1; have m2 := hE9.c2; have m3 := hE9.c3; have m4 := hE9.c4; have m5 := hE9.hi
              simp only at m0 m1 m2 m3 m4
              go_wp2_with (at_builtin; refine wpList_append_own _ rfl _ _ 26 rfl w.heap.size 30 i0 _ 5 40 Try.underlying26 hi hz0 hz1 hz2 rfl (by decide) _ _ _ rfl ((HO.out.alloc (Obj.cells #[Value.int IntKind.i64 (max es (s + n)), Value.int IntKind.i64 (es + ec - max es (s + n)), Value.int IntKind.i64 ef, Value.int IntKind.i64 (ep + (max es (s + n) - es)), Value.bool eb] 30)).alloc (Obj.cells #[Value.int IntKind.i64 (max es (s + n)), Value.int IntKind.i64 (es + ec - max es (s + n)), Value.int IntKind.i64 ef, Value.int IntKind.i64 (ep + (max es (s + n) - es)), Value.bool eb] 30)) ⟨w9.heap.size + 1, 0, none⟩ 1 1 [.int .i64 (max es (s + n)), .int .i64 (es + ec - max es (s + n)), .int .i64 ef, .int .i64 (ep + (max es (s + n) - es)), .bool eb] rfl rfl ?c1 ?c2 ?c3 ?c4 ?c5 ?_)
              try
                (case c1 =>
                  intro j u hj
                  rw [Addr.add_lit]
                  exact cells_at ((Blk.snd w9 _ (max es (s + n)) (es + ec - max es (s + n)) ef (ep + (max es (s + n) - es)) eb)) j u hj)
              case c2 =>
                first
                | exact ⟨rfl, rfl, rfl, rfl, rfl⟩
                | (intro u hu
                   simp at hu
                   rcases hu with rfl | rfl | rfl | rfl | rfl <;> rfl)
              case c3 => unfold maxLen; (try simp); omega
              case c4 => (try simp); omega
              case c5 => have := HB.out.size; simp; omega
              intro vw10 w10 hown' hgrow _
              have hBn := ((HB.out.alloc HB.out.size (Obj.cells #[Value.int IntKind.i64 (max es (s + n)), Value.int IntKind.i64 (es + ec - max es (s + n)), Value.int IntKind.i64 ef, Value.int IntKind.i64 (ep + (max es (s + n) - es)), Value.bool eb] 30)).alloc (by have := HB.out.size; simp; omega) (Obj.cells #[Value.int IntKind.i64 (max es (s + n)), Value.int IntKind.i64 (es + ec - max es (s + n)), Value.int IntKind.i64 ef, Value.int IntKind.i64 (ep + (max es (s + n) - es)), Value.bool eb] 30)).grown hgrow (by have := HB.out.size; simp; omega) (fun x hx => (HO.out.lt x hx).1)
              have hOn : w10.ownsRow w.heap.size 30 5 vw10 (L2 ++ [(Ar.mk (max es (s + n)) (es + ec - max es (s + n)) ef (ep + (max es (s + n) - es)) eb)]).length (flat (L2 ++ [(Ar.mk (max es (s + n)) (es + ec - max es (s + n)) ef (ep + (max es (s + n) - es)) eb)])) := by
                rw [flat_append, flat_one]
                simp only [List.length_append, List.length_singleton]
                simpa [Ar.cells] using hown'
              clear hown' hgrow HB HO m0 m1 m2 m3 m4 m5 hE9
              have HB := Lib.hid hBn
              have HO := Lib.hid hOn
              clear hBn hOn
              go_wp2_with fail
              go_roundw
              case rel => exact ⟨k + 1, by omega, by go_num, HB, by rw [HOS.out]; exact HO⟩
              case measure => simp [intOf]; omega
            · rw [if_neg hc2, List.append_nil] at HOS
              have hc2' : es + ec ≤ s + n := by omega
              go_wp2_with fail
              go_roundw
              case rel => exact ⟨k + 1, by omega, by go_num, HB, by rw [HOS.out]; exact HO⟩
              case measure => simp [intOf]; omega
          · have hc1' : s ≤ es := by omega
            rw [if_neg hc1, List.append_nil] at HOS
            by_cases hc2 : s + n < es + ec
            · rw [if_pos hc2] at HOS
              go_wp2_with (at_builtin; refine wpList_append_own _ rfl _ _ 26 rfl w.heap.size 30 i0 _ 5 40 Try.underlying26 hi hz0 hz1 hz2 rfl (by decide) _ _ _ rfl (((HO.out.alloc (Obj.cells #[Value.int IntKind.i64 es, Value.int IntKind.i64 ec, Value.int IntKind.i64 ef, Value.int IntKind.i64 ep, Value.bool eb] 30)).alloc (Obj.cells #[Value.int IntKind.i64 (max es (s + n)), Value.int IntKind.i64 (es + ec - max es (s + n)), Value.int IntKind.i64 ef, Value.int IntKind.i64 (ep + (max es (s + n) - es)), Value.bool eb] 30)).alloc (Obj.cells #[Value.int IntKind.i64 (max es (s + n)), Value.int IntKind.i64 (es + ec - max es (s + n)), Value.int IntKind.i64 ef, Value.int IntKind.i64 (ep + (max es (s + n) - es)), Value.bool eb] 30)) ⟨wr.heap.size + 1 + 1, 0, none⟩ 1 1 [.int .i64 (max es (s + n)), .int .i64 (es + ec - max es (s + n)), .int .i64 ef, .int .i64 (ep + (max es (s + n) - es)), .bool eb] rfl rfl ?c1 ?c2 ?c3 ?c4 ?c5 ?_)
              try
                (case c1 =>
                  intro j u hj
                  rw [Addr.add_lit]
                  exact cells_at (Blk.third wr _ _ (max es (s + n)) (es + ec - max es (s + n)) ef (ep + (max es (s + n) - es)) eb) j u hj)
              case c2 =>
                first
                | exact ⟨rfl, rfl, rfl, rfl, rfl⟩
                | (intro u hu
                   simp at hu
                   rcases hu with rfl | rfl | rfl | rfl | rfl <;> rfl)
              case c3 => unfold maxLen; (try simp); omega
              case c4 => (try simp); omega
              case c5 => have := HB.out.size; simp; omega
              intro vw9 w9 hown' hgrow _
              have hBn := (((HB.out.alloc HB.out.size (Obj.cells #[Value.int IntKind.i64 es, Value.int IntKind.i64 ec, Value.int IntKind.i64 ef, Value.int IntKind.i64 ep, Value.bool eb] 30)).alloc (by have := HB.out.size; simp; omega) (Obj.cells #[Value.int IntKind.i64 (max es (s + n)), Value.int IntKind.i64 (es + ec - max es (s + n)), Value.int IntKind.i64 ef, Value.int IntKind.i64 (ep + (max es (s + n) - es)), Value.bool eb] 30)).alloc (by have := HB.out.size; simp; omega) (Obj.cells #[Value.int IntKind.i64 (max es (s + n)), Value.int IntKind.i64 (es + ec - max es (s + n)), Value.int IntKind.i64 ef, Value.int IntKind.i64 (ep + (max es (s + n) - es)), Value.bool eb] 30)).grown hgrow (by have := HB.out.size; simp; omega) (fun x hx => (HO.out.lt x hx).1)
              have hOn : w9.ownsRow w.heap.size 30 5 vw9 (L ++ [(Ar.mk (max es (s + n)) (es + ec - max es (s + n)) ef (ep + (max es (s + n) - es)) eb)]).length (flat (L ++ [(Ar.mk (max es (s + n)) (es + ec - max es (s + n)) ef (ep + (max es (s + n) - es)) eb)])) := by
                rw [flat_append, flat_one]
                simp only [List.length_append, List.length_singleton]
                simpa [Ar.cells] using hown'
              clear hown' hgrow HB HO HAN k0 k1 k2 k3 k4
              have HB := Lib.hid hBn
              have HO := Lib.hid hOn
              clear hBn hOn
              go_wp2_with fail
              go_roundw
              case rel => exact ⟨k + 1, by omega, by go_num, HB, by rw [HOS.out]; exact HO⟩
              case measure => simp [intOf]; omega
            · rw [if_neg hc2, List.append_nil] at HOS
              have hc2' : es + ec ≤ s + n := by omega
              have HB2 := Lib.hid (HB.out.alloc HB.out.size (Obj.cells #[Value.int IntKind.i64 es, Value.int IntKind.i64 ec, Value.int IntKind.i64 ef, Value.int IntKind.i64 ep, Value.bool eb] 30))
              have HO2 := Lib.hid (HO.out.alloc (Obj.cells #[Value.int IntKind.i64 es, Value.int IntKind.i64 ec, Value.int IntKind.i64 ef, Value.int IntKind.i64 ep, Value.bool eb] 30))
              go_wp2_with fail
              go_roundw
              case rel => exact ⟨k + 1, by omega, by go_num, HB2, by rw [HOS.out]; exact HO2⟩
              case measure => simp [intOf]; omega
        · obtain rfl : k = l.length := by omega
          have hol := outTo_len l s n l.length
          generalize outTo l s n l.length = L at *
          obtain ⟨b7, c7, rfl, _, hr7⟩ := ARow.ofOwn HO.out
          have HR7 := Lib.hid (hr7.mono (Nat.zero_le w.heap.size))
          clear hr7
          by_cases h8 : 8 < L.length
          · rw [if_pos h8] at HVV
            have h8' : (8 : Int) < (L.length : Int) := by omega
            go_wp2_with fail
            go_ret2
            exact ⟨a, cap, by rw [HVV.out]; rfl, by rw [HVV.out]; exact HROW.out _ HB.out, HB.out⟩
          · rw [if_neg h8] at HVV
            have h8' : (L.length : Int) ≤ 8 := by omega
            go_wp2_with fail
            go_ret2
            exact ⟨b7, c7, by rw [HVV.out]; rfl, by rw [HVV.out]; exact HR7.out, HB.out⟩
end Go.Proofs.Ytpnoilpdlnlebaa
