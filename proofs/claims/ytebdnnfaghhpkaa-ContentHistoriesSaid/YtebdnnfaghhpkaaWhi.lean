/- The walk of ContentHistories. -/
import Derived.Test.YtebdnnfaghhpkaaHw
namespace Go.Proofs.Ytebdnnfaghhpkaa
open Go.ChangeShapes Go.WideShapes Go.ChangeAt Go.RowKit

set_option maxRecDepth 100000 in
set_option maxHeartbeats 16000000 in
theorem histories_walk (a : Option Addr) (len cap : Nat) (w : World) (ha : ArgRow w a len) (hl : len ≤ maxLen) :
    Calls Try.prog 4 #[.slice a len cap] w (RetW (.bool true) w) := by
  have HT := Lib.hid (tape_start w a len cap ha hl)
  go_enter Try.func4, Try.ntmps4
  go_wp2_with fail
  have HK : Hid (Tock w.heap.size w (w.alloc (.cells #[.slice a len cap, .int .i64 0] 25))) := Tock.ofBelow ((Below.refl w.heap.size w).alloc (Nat.le_refl _) _) (Nat.le_refl _)
  generalize w.alloc (.cells #[.slice a len cap, .int .i64 0] 25) = w0 at *
  refine (history_any _ _ _ _ _ _ HT.out).mono ?_
  rintro e w1 ⟨b, c, l, q, rfl, row, sz, l9, q0, q1, hk, tp1⟩
  have SZ := Lib.hid sz
  have HV := Lib.hid (WIv.start (q := q) tp1 (HK.out.trans hk) row)
  clear sz row hk tp1 HT HK
  go_wp2_with fail
  generalize w1.alloc (.cells #[.slice b l.length c, .int .i64 q] 40) = w2 at *
  generalize w1.heap.size = H at *
  refine (text_any _ _ _ _ _ _ HV.out.tp).mono ?_
  rintro e w3 ⟨s, hs, rfl, hk, tpn⟩
  replace HV := Lib.hid (HV.out.tock hk tpn)
  clear hk tpn
  go_wp2_with fail
  refine (next_tp 3 _ _ _ _ _ _ (by omega) (by omega) HV.out.tp).mono ?_
  rintro e w4 ⟨x, xa, xb, rfl, hk, tpn⟩
  replace HV := Lib.hid (HV.out.tock hk.tock tpn)
  clear hk tpn
  have c0 := HV.out.c0
  by_cases x0 : x = 0
  · subst x0
    clear xb c0
    go_wp2_with fail
    refine (next_tp 10 _ _ _ _ _ _ (by omega) (by omega) HV.out.tp).mono ?_
    rintro e w5 ⟨at1, at1a, at1b, rfl, hk, tpn⟩
    replace HV := Lib.hid (HV.out.tock hk.tock tpn)
    clear hk tpn
    go_wp2_with fail
    refine (next_tp 12 _ _ _ _ _ _ (by omega) (by omega) HV.out.tp).mono ?_
    rintro e w6 ⟨y, ya, yb, rfl, hk, tpn⟩
    replace HV := Lib.hid (HV.out.tock hk.tock tpn)
    clear hk tpn
    by_cases y0 : y = 0
    · subst y0
      go_wp2_with fail
      refine (odd_any _ _ _ _ _ _ HV.out.tp).mono ?_
      rintro e w6b ⟨q2, q2a, q2b, rfl, hk, tpn⟩
      replace HV := Lib.hid (HV.out.tock hk tpn)
      clear hk tpn yb
      have c1 := HV.out.c1; have f1 := HV.out.f1
      go_wp2_with fail
      clear c1 f1
      replace HV := Lib.hid (HV.out.setq q2)
      generalize (w6b.setCell { block := H, off := 1 } (Value.int IntKind.i64 q2)) = w6c at *
      go_wp2_with fail
      refine (next_tp 20 _ _ _ _ _ _ (by omega) (by omega) HV.out.tp).mono ?_
      rintro e w7 ⟨z, za, zb, rfl, hk, tpn⟩
      replace HV := Lib.hid (HV.out.tock hk.tock tpn)
      clear hk tpn
      by_cases z0 : z = 0
      · subst z0
        have c0 := HV.out.c0; have f0 := HV.out.f0
        clear zb
        go_wp2_with fail
        clear c0 f0
        replace HV := Lib.hid HV.out.setnil
        generalize (w7.setCell { block := H, off := 0 } (Value.slice none 0 0)) = w8 at *
        obtain ⟨b7, c7, l7, HV2, SZ2, l92⟩ : ∃ b7 c7 l7, Hid (WIv w w.heap.size a len cap H b7 c7 l7 q2 w8) ∧ Hid (∀ x : ByteArray, x ∈ l7 → x.size ≤ 8) ∧ l7.length ≤ 9 := ⟨none, 0, [], HV, (fun x hx => by cases hx), by simp⟩
        clear SZ HV
        have SZ := SZ2; have HV := HV2
        clear SZ2 HV2
        have HW := Lib.hid (HV.out.below (Below.refl _ _).drew)
        have c0 := HV.out.c0; have c1 := HV.out.c1
        have M1 : Hid (∀ W, WIv w w.heap.size a len cap H b7 c7 l7 q2 W → Calls Try.prog 24 #[.agg #[.slice b7 l7.length c7, .int .i64 q2], .string s] W fun e w' => e = .returned (.bool (mayV l7 q2 s)) ∧ WIv w w.heap.size a len cap H b7 c7 l7 q2 w') := fun W hW => (may_any _ b7 l7 c7 q2 s W hW.row (by omega) (fun x hx => by have := SZ.out x hx; omega) (by omega)).mono fun e w' ⟨he, hb⟩ => ⟨he, hW.below hb⟩
        have M2 : Hid (∀ W, WIv w w.heap.size a len cap H b7 c7 l7 q2 W → Calls Try.prog 25 #[.agg #[.slice b7 l7.length c7, .int .i64 q2], .string s] W fun e w' => e = .returned (.bool (mayV l7 q2 s)) ∧ WIv w w.heap.size a len cap H b7 c7 l7 q2 w') := fun W hW => (mayR_any _ b7 l7 c7 q2 s W hW.row (by omega) (fun x hx => by have := SZ.out x hx; omega) (by omega)).mono fun e w' ⟨he, hb⟩ => ⟨he, hW.below hb⟩
        have M3 : Hid (∀ W, WIv w w.heap.size a len cap H b7 c7 l7 q2 W → Calls Try.prog 27 #[.agg #[.slice b7 l7.length c7, .int .i64 q2], .string s] W fun e w' => ∃ a1 c1, e = .returned (.agg #[.slice a1 (l7.length + 1) c1, .int .i64 q2]) ∧ StrRow 0 a1 c1 (l7 ++ [s]) w' ∧ WIv w w.heap.size a len cap H b7 c7 l7 q2 w') := fun W hW => (change_any _ b7 l7 c7 q2 s W hW.row (by omega)).mono fun e w' ⟨a1, c1, he, hr, hb⟩ => ⟨a1, c1, he, hr.mono (Nat.zero_le _), hW.below hb⟩
        have M4 : Hid (∀ W a0 c0, StrRow 0 a0 c0 (l7 ++ [s]) W → WIv w w.heap.size a len cap H b7 c7 l7 q2 W → Calls Try.prog 28 #[.agg #[.slice b7 l7.length c7, .int .i64 q2], .string s] W fun e w' => ∃ a1 c1, e = .returned (.agg #[.slice a1 (l7.length + 1) c1, .int .i64 q2]) ∧ StrRow 0 a1 c1 (l7 ++ [s]) w' ∧ StrRow 0 a0 c0 (l7 ++ [s]) w' ∧ WIv w w.heap.size a len cap H b7 c7 l7 q2 w') := fun W a0 c0 h0 hW => (changeR_any _ b7 l7 c7 q2 s W hW.row (by omega)).mono fun e w' ⟨a1, c1, he, hr, hb⟩ => ⟨a1, c1, he, hr.mono (Nat.zero_le _), h0.below hb, hW.below hb⟩
        have M5 : Hid (∀ W a1 c1 a2 c2, StrRow 0 a1 c1 (l7 ++ [s]) W → StrRow 0 a2 c2 (l7 ++ [s]) W → WIv w w.heap.size a len cap H b7 c7 l7 q2 W → Calls Try.prog 26 #[.agg #[.slice a1 (l7.length + 1) c1, .int .i64 q2], .agg #[.slice a2 (l7.length + 1) c2, .int .i64 q2]] W fun e w' => e = .returned (.bool true) ∧ WIv w w.heap.size a len cap H b7 c7 l7 q2 w') := fun W a1 c1 a2 c2 h1 h2 hW => (same_any _ _ a1 a2 (l7 ++ [s]) _ c1 c2 q2 W h1 h2 (by simp) (by simp; omega) (fun x hx => by
            rcases List.mem_append.1 hx with hx | hx
            · have := SZ.out x hx; omega
            · rw [List.mem_singleton.1 hx]; omega)).mono fun e w' ⟨he, hb⟩ => ⟨he, hW.below hb⟩
        have M6 : Hid (∀ W, WIv w w.heap.size a len cap H b7 c7 l7 q2 W → Calls Try.prog 29 #[.agg #[.slice b7 l7.length c7, .int .i64 q2], .int .i64 (at1 - 1)] W fun e w' => ∃ a1 c1, e = .returned (.agg #[.slice a1 l7.length c1, .int .i64 (syncV l7.length q2 (at1 - 1))]) ∧ StrRow 0 a1 c1 l7 w' ∧ WIv w w.heap.size a len cap H b7 c7 l7 q2 w') := fun W hW => (synced_any _ b7 l7 c7 q2 (at1 - 1) W hW.row (by omega)).mono fun e w' ⟨a1, c1, he, hr, hb⟩ => ⟨a1, c1, he, hr.mono (Nat.zero_le _), hW.below hb⟩
        have M7 : Hid (∀ W a0 c0, StrRow 0 a0 c0 l7 W → WIv w w.heap.size a len cap H b7 c7 l7 q2 W → Calls Try.prog 30 #[.agg #[.slice b7 l7.length c7, .int .i64 q2], .int .i64 (at1 - 1)] W fun e w' => e = .returned (.agg #[.slice b7 l7.length c7, .int .i64 (syncV l7.length q2 (at1 - 1))]) ∧ StrRow 0 a0 c0 l7 w' ∧ WIv w w.heap.size a len cap H b7 c7 l7 q2 w') := fun W a0 c0 h0 hW => (syncedR_any b7 l7.length c7 q2 (at1 - 1) W).mono fun e w' ⟨he, hb⟩ => ⟨he, h0.below hb, hW.below hb⟩
        have M8 : Hid (∀ W a1 c1 y, StrRow 0 a1 c1 l7 W → WIv w w.heap.size a len cap H b7 c7 l7 q2 W → Calls Try.prog 26 #[.agg #[.slice a1 l7.length c1, .int .i64 y], .agg #[.slice b7 l7.length c7, .int .i64 y]] W fun e w' => e = .returned (.bool true) ∧ WIv w w.heap.size a len cap H b7 c7 l7 q2 w') := fun W a1 c1 y h1 hW => (same_any _ _ a1 b7 l7 _ c1 c7 y W h1 hW.row rfl (by omega) (fun x hx => by have := SZ.out x hx; omega)).mono fun e w' ⟨he, hb⟩ => ⟨he, hW.below hb⟩
        generalize mayV l7 q2 s = r at *
        generalize syncV l7.length q2 (at1 - 1) = y at *
        go_region_held3 (fun w' => w'.cell? ⟨H, 0, none⟩ = some (.slice b7 l7.length c7) ∧ w'.cell? ⟨H, 1, none⟩ = some (.int .i64 q2)) (go_keep) (first | (go_at_call 24; (with_reducible refine (M1.out _ HW.out).mono ?_); rintro e wa ⟨rfl, va⟩; have ka0 := va.c0; have ka1 := va.c1) | (go_at_call 25; (with_reducible refine (M2.out _ va).mono ?_); rintro e wb ⟨rfl, vb⟩; have kb0 := vb.c0; have kb1 := vb.c1) | (go_at_call 27; (with_reducible refine (M3.out _ vb).mono ?_); rintro e wc ⟨a1, d1, rfl, rc, vc⟩; have kc0 := vc.c0; have kc1 := vc.c1) | (go_at_call 28; (with_reducible refine (M4.out _ _ _ rc vc).mono ?_); rintro e wd ⟨a2, d2, rfl, rd, rc2, vd⟩; have kd0 := vd.c0; have kd1 := vd.c1) | (go_at_call 26; (with_reducible refine (M5.out _ _ _ _ _ rc2 rd vd).mono ?_); rintro e we ⟨rfl, ve⟩; have ke0 := ve.c0; have ke1 := ve.c1) | (go_at_call 29; (with_reducible refine (M6.out _ ve).mono ?_); rintro e wf ⟨a3, d3, rfl, rf, vf⟩; have kf0 := vf.c0; have kf1 := vf.c1) | (go_at_call 30; (with_reducible refine (M7.out _ _ _ rf vf).mono ?_); rintro e wg ⟨rfl, rg, vg⟩; have kg0 := vg.c0; have kg1 := vg.c1) | (go_at_call 26; (with_reducible refine (M8.out _ _ _ _ rg vg).mono ?_); rintro e wh ⟨rfl, vh⟩; have kh0 := vh.c0; have kh1 := vh.c1) | (go_at_call 22; (with_reducible refine (awake_any _).mono ?_); rintro e wi ⟨rfl, hbi⟩; have vi := vh.below hbi; have ki0 := vi.c0; have ki1 := vi.c1))
        go_wp2_with fail
        go_ret
        exact RetW.mk rfl vi.tp.bel
      · have z1 : (z == 0) = false := by simpa using z0
        go_wp2_with fail
        have HW := Lib.hid (HV.out.below (Below.refl _ _).drew)
        have c0 := HV.out.c0; have c1 := HV.out.c1
        have M1 : Hid (∀ W, WIv w w.heap.size a len cap H b c l q2 W → Calls Try.prog 24 #[.agg #[.slice b l.length c, .int .i64 q2], .string s] W fun e w' => e = .returned (.bool (mayV l q2 s)) ∧ WIv w w.heap.size a len cap H b c l q2 w') := fun W hW => (may_any _ b l c q2 s W hW.row (by omega) (fun x hx => by have := SZ.out x hx; omega) (by omega)).mono fun e w' ⟨he, hb⟩ => ⟨he, hW.below hb⟩
        have M2 : Hid (∀ W, WIv w w.heap.size a len cap H b c l q2 W → Calls Try.prog 25 #[.agg #[.slice b l.length c, .int .i64 q2], .string s] W fun e w' => e = .returned (.bool (mayV l q2 s)) ∧ WIv w w.heap.size a len cap H b c l q2 w') := fun W hW => (mayR_any _ b l c q2 s W hW.row (by omega) (fun x hx => by have := SZ.out x hx; omega) (by omega)).mono fun e w' ⟨he, hb⟩ => ⟨he, hW.below hb⟩
        have M3 : Hid (∀ W, WIv w w.heap.size a len cap H b c l q2 W → Calls Try.prog 27 #[.agg #[.slice b l.length c, .int .i64 q2], .string s] W fun e w' => ∃ a1 c1, e = .returned (.agg #[.slice a1 (l.length + 1) c1, .int .i64 q2]) ∧ StrRow 0 a1 c1 (l ++ [s]) w' ∧ WIv w w.heap.size a len cap H b c l q2 w') := fun W hW => (change_any _ b l c q2 s W hW.row (by omega)).mono fun e w' ⟨a1, c1, he, hr, hb⟩ => ⟨a1, c1, he, hr.mono (Nat.zero_le _), hW.below hb⟩
        have M4 : Hid (∀ W a0 c0, StrRow 0 a0 c0 (l ++ [s]) W → WIv w w.heap.size a len cap H b c l q2 W → Calls Try.prog 28 #[.agg #[.slice b l.length c, .int .i64 q2], .string s] W fun e w' => ∃ a1 c1, e = .returned (.agg #[.slice a1 (l.length + 1) c1, .int .i64 q2]) ∧ StrRow 0 a1 c1 (l ++ [s]) w' ∧ StrRow 0 a0 c0 (l ++ [s]) w' ∧ WIv w w.heap.size a len cap H b c l q2 w') := fun W a0 c0 h0 hW => (changeR_any _ b l c q2 s W hW.row (by omega)).mono fun e w' ⟨a1, c1, he, hr, hb⟩ => ⟨a1, c1, he, hr.mono (Nat.zero_le _), h0.below hb, hW.below hb⟩
        have M5 : Hid (∀ W a1 c1 a2 c2, StrRow 0 a1 c1 (l ++ [s]) W → StrRow 0 a2 c2 (l ++ [s]) W → WIv w w.heap.size a len cap H b c l q2 W → Calls Try.prog 26 #[.agg #[.slice a1 (l.length + 1) c1, .int .i64 q2], .agg #[.slice a2 (l.length + 1) c2, .int .i64 q2]] W fun e w' => e = .returned (.bool true) ∧ WIv w w.heap.size a len cap H b c l q2 w') := fun W a1 c1 a2 c2 h1 h2 hW => (same_any _ _ a1 a2 (l ++ [s]) _ c1 c2 q2 W h1 h2 (by simp) (by simp; omega) (fun x hx => by
            rcases List.mem_append.1 hx with hx | hx
            · have := SZ.out x hx; omega
            · rw [List.mem_singleton.1 hx]; omega)).mono fun e w' ⟨he, hb⟩ => ⟨he, hW.below hb⟩
        have M6 : Hid (∀ W, WIv w w.heap.size a len cap H b c l q2 W → Calls Try.prog 29 #[.agg #[.slice b l.length c, .int .i64 q2], .int .i64 (at1 - 1)] W fun e w' => ∃ a1 c1, e = .returned (.agg #[.slice a1 l.length c1, .int .i64 (syncV l.length q2 (at1 - 1))]) ∧ StrRow 0 a1 c1 l w' ∧ WIv w w.heap.size a len cap H b c l q2 w') := fun W hW => (synced_any _ b l c q2 (at1 - 1) W hW.row (by omega)).mono fun e w' ⟨a1, c1, he, hr, hb⟩ => ⟨a1, c1, he, hr.mono (Nat.zero_le _), hW.below hb⟩
        have M7 : Hid (∀ W a0 c0, StrRow 0 a0 c0 l W → WIv w w.heap.size a len cap H b c l q2 W → Calls Try.prog 30 #[.agg #[.slice b l.length c, .int .i64 q2], .int .i64 (at1 - 1)] W fun e w' => e = .returned (.agg #[.slice b l.length c, .int .i64 (syncV l.length q2 (at1 - 1))]) ∧ StrRow 0 a0 c0 l w' ∧ WIv w w.heap.size a len cap H b c l q2 w') := fun W a0 c0 h0 hW => (syncedR_any b l.length c q2 (at1 - 1) W).mono fun e w' ⟨he, hb⟩ => ⟨he, h0.below hb, hW.below hb⟩
        have M8 : Hid (∀ W a1 c1 y, StrRow 0 a1 c1 l W → WIv w w.heap.size a len cap H b c l q2 W → Calls Try.prog 26 #[.agg #[.slice a1 l.length c1, .int .i64 y], .agg #[.slice b l.length c, .int .i64 y]] W fun e w' => e = .returned (.bool true) ∧ WIv w w.heap.size a len cap H b c l q2 w') := fun W a1 c1 y h1 hW => (same_any _ _ a1 b l _ c1 c y W h1 hW.row rfl (by omega) (fun x hx => by have := SZ.out x hx; omega)).mono fun e w' ⟨he, hb⟩ => ⟨he, hW.below hb⟩
        generalize mayV l q2 s = r at *
        generalize syncV l.length q2 (at1 - 1) = y at *
        go_region_held3 (fun w' => w'.cell? ⟨H, 0, none⟩ = some (.slice b l.length c) ∧ w'.cell? ⟨H, 1, none⟩ = some (.int .i64 q2)) (go_keep) (first | (go_at_call 24; (with_reducible refine (M1.out _ HW.out).mono ?_); rintro e wa ⟨rfl, va⟩; have ka0 := va.c0; have ka1 := va.c1) | (go_at_call 25; (with_reducible refine (M2.out _ va).mono ?_); rintro e wb ⟨rfl, vb⟩; have kb0 := vb.c0; have kb1 := vb.c1) | (go_at_call 27; (with_reducible refine (M3.out _ vb).mono ?_); rintro e wc ⟨a1, d1, rfl, rc, vc⟩; have kc0 := vc.c0; have kc1 := vc.c1) | (go_at_call 28; (with_reducible refine (M4.out _ _ _ rc vc).mono ?_); rintro e wd ⟨a2, d2, rfl, rd, rc2, vd⟩; have kd0 := vd.c0; have kd1 := vd.c1) | (go_at_call 26; (with_reducible refine (M5.out _ _ _ _ _ rc2 rd vd).mono ?_); rintro e we ⟨rfl, ve⟩; have ke0 := ve.c0; have ke1 := ve.c1) | (go_at_call 29; (with_reducible refine (M6.out _ ve).mono ?_); rintro e wf ⟨a3, d3, rfl, rf, vf⟩; have kf0 := vf.c0; have kf1 := vf.c1) | (go_at_call 30; (with_reducible refine (M7.out _ _ _ rf vf).mono ?_); rintro e wg ⟨rfl, rg, vg⟩; have kg0 := vg.c0; have kg1 := vg.c1) | (go_at_call 26; (with_reducible refine (M8.out _ _ _ _ rg vg).mono ?_); rintro e wh ⟨rfl, vh⟩; have kh0 := vh.c0; have kh1 := vh.c1) | (go_at_call 22; (with_reducible refine (awake_any _).mono ?_); rintro e wi ⟨rfl, hbi⟩; have vi := vh.below hbi; have ki0 := vi.c0; have ki1 := vi.c1))
        go_wp2_with fail
        go_ret
        exact RetW.mk rfl vi.tp.bel
    · have y1 : (y == 0) = false := by simpa using y0
      go_wp2_with fail
      refine (next_tp 20 _ _ _ _ _ _ (by omega) (by omega) HV.out.tp).mono ?_
      rintro e w7 ⟨z, za, zb, rfl, hk, tpn⟩
      replace HV := Lib.hid (HV.out.tock hk.tock tpn)
      clear hk tpn
      by_cases z0 : z = 0
      · subst z0
        have c0 := HV.out.c0; have f0 := HV.out.f0
        clear zb
        go_wp2_with fail
        clear c0 f0
        replace HV := Lib.hid HV.out.setnil
        generalize (w7.setCell { block := H, off := 0 } (Value.slice none 0 0)) = w8 at *
        obtain ⟨b7, c7, l7, HV2, SZ2, l92⟩ : ∃ b7 c7 l7, Hid (WIv w w.heap.size a len cap H b7 c7 l7 q w8) ∧ Hid (∀ x : ByteArray, x ∈ l7 → x.size ≤ 8) ∧ l7.length ≤ 9 := ⟨none, 0, [], HV, (fun x hx => by cases hx), by simp⟩
        clear SZ HV
        have SZ := SZ2; have HV := HV2
        clear SZ2 HV2
        have HW := Lib.hid (HV.out.below (Below.refl _ _).drew)
        have c0 := HV.out.c0; have c1 := HV.out.c1
        have M1 : Hid (∀ W, WIv w w.heap.size a len cap H b7 c7 l7 q W → Calls Try.prog 24 #[.agg #[.slice b7 l7.length c7, .int .i64 q], .string s] W fun e w' => e = .returned (.bool (mayV l7 q s)) ∧ WIv w w.heap.size a len cap H b7 c7 l7 q w') := fun W hW => (may_any _ b7 l7 c7 q s W hW.row (by omega) (fun x hx => by have := SZ.out x hx; omega) (by omega)).mono fun e w' ⟨he, hb⟩ => ⟨he, hW.below hb⟩
        have M2 : Hid (∀ W, WIv w w.heap.size a len cap H b7 c7 l7 q W → Calls Try.prog 25 #[.agg #[.slice b7 l7.length c7, .int .i64 q], .string s] W fun e w' => e = .returned (.bool (mayV l7 q s)) ∧ WIv w w.heap.size a len cap H b7 c7 l7 q w') := fun W hW => (mayR_any _ b7 l7 c7 q s W hW.row (by omega) (fun x hx => by have := SZ.out x hx; omega) (by omega)).mono fun e w' ⟨he, hb⟩ => ⟨he, hW.below hb⟩
        have M3 : Hid (∀ W, WIv w w.heap.size a len cap H b7 c7 l7 q W → Calls Try.prog 27 #[.agg #[.slice b7 l7.length c7, .int .i64 q], .string s] W fun e w' => ∃ a1 c1, e = .returned (.agg #[.slice a1 (l7.length + 1) c1, .int .i64 q]) ∧ StrRow 0 a1 c1 (l7 ++ [s]) w' ∧ WIv w w.heap.size a len cap H b7 c7 l7 q w') := fun W hW => (change_any _ b7 l7 c7 q s W hW.row (by omega)).mono fun e w' ⟨a1, c1, he, hr, hb⟩ => ⟨a1, c1, he, hr.mono (Nat.zero_le _), hW.below hb⟩
        have M4 : Hid (∀ W a0 c0, StrRow 0 a0 c0 (l7 ++ [s]) W → WIv w w.heap.size a len cap H b7 c7 l7 q W → Calls Try.prog 28 #[.agg #[.slice b7 l7.length c7, .int .i64 q], .string s] W fun e w' => ∃ a1 c1, e = .returned (.agg #[.slice a1 (l7.length + 1) c1, .int .i64 q]) ∧ StrRow 0 a1 c1 (l7 ++ [s]) w' ∧ StrRow 0 a0 c0 (l7 ++ [s]) w' ∧ WIv w w.heap.size a len cap H b7 c7 l7 q w') := fun W a0 c0 h0 hW => (changeR_any _ b7 l7 c7 q s W hW.row (by omega)).mono fun e w' ⟨a1, c1, he, hr, hb⟩ => ⟨a1, c1, he, hr.mono (Nat.zero_le _), h0.below hb, hW.below hb⟩
        have M5 : Hid (∀ W a1 c1 a2 c2, StrRow 0 a1 c1 (l7 ++ [s]) W → StrRow 0 a2 c2 (l7 ++ [s]) W → WIv w w.heap.size a len cap H b7 c7 l7 q W → Calls Try.prog 26 #[.agg #[.slice a1 (l7.length + 1) c1, .int .i64 q], .agg #[.slice a2 (l7.length + 1) c2, .int .i64 q]] W fun e w' => e = .returned (.bool true) ∧ WIv w w.heap.size a len cap H b7 c7 l7 q w') := fun W a1 c1 a2 c2 h1 h2 hW => (same_any _ _ a1 a2 (l7 ++ [s]) _ c1 c2 q W h1 h2 (by simp) (by simp; omega) (fun x hx => by
            rcases List.mem_append.1 hx with hx | hx
            · have := SZ.out x hx; omega
            · rw [List.mem_singleton.1 hx]; omega)).mono fun e w' ⟨he, hb⟩ => ⟨he, hW.below hb⟩
        have M6 : Hid (∀ W, WIv w w.heap.size a len cap H b7 c7 l7 q W → Calls Try.prog 29 #[.agg #[.slice b7 l7.length c7, .int .i64 q], .int .i64 (at1 - 1)] W fun e w' => ∃ a1 c1, e = .returned (.agg #[.slice a1 l7.length c1, .int .i64 (syncV l7.length q (at1 - 1))]) ∧ StrRow 0 a1 c1 l7 w' ∧ WIv w w.heap.size a len cap H b7 c7 l7 q w') := fun W hW => (synced_any _ b7 l7 c7 q (at1 - 1) W hW.row (by omega)).mono fun e w' ⟨a1, c1, he, hr, hb⟩ => ⟨a1, c1, he, hr.mono (Nat.zero_le _), hW.below hb⟩
        have M7 : Hid (∀ W a0 c0, StrRow 0 a0 c0 l7 W → WIv w w.heap.size a len cap H b7 c7 l7 q W → Calls Try.prog 30 #[.agg #[.slice b7 l7.length c7, .int .i64 q], .int .i64 (at1 - 1)] W fun e w' => e = .returned (.agg #[.slice b7 l7.length c7, .int .i64 (syncV l7.length q (at1 - 1))]) ∧ StrRow 0 a0 c0 l7 w' ∧ WIv w w.heap.size a len cap H b7 c7 l7 q w') := fun W a0 c0 h0 hW => (syncedR_any b7 l7.length c7 q (at1 - 1) W).mono fun e w' ⟨he, hb⟩ => ⟨he, h0.below hb, hW.below hb⟩
        have M8 : Hid (∀ W a1 c1 y, StrRow 0 a1 c1 l7 W → WIv w w.heap.size a len cap H b7 c7 l7 q W → Calls Try.prog 26 #[.agg #[.slice a1 l7.length c1, .int .i64 y], .agg #[.slice b7 l7.length c7, .int .i64 y]] W fun e w' => e = .returned (.bool true) ∧ WIv w w.heap.size a len cap H b7 c7 l7 q w') := fun W a1 c1 y h1 hW => (same_any _ _ a1 b7 l7 _ c1 c7 y W h1 hW.row rfl (by omega) (fun x hx => by have := SZ.out x hx; omega)).mono fun e w' ⟨he, hb⟩ => ⟨he, hW.below hb⟩
        generalize mayV l7 q s = r at *
        generalize syncV l7.length q (at1 - 1) = y at *
        go_region_held3 (fun w' => w'.cell? ⟨H, 0, none⟩ = some (.slice b7 l7.length c7) ∧ w'.cell? ⟨H, 1, none⟩ = some (.int .i64 q)) (go_keep) (first | (go_at_call 24; (with_reducible refine (M1.out _ HW.out).mono ?_); rintro e wa ⟨rfl, va⟩; have ka0 := va.c0; have ka1 := va.c1) | (go_at_call 25; (with_reducible refine (M2.out _ va).mono ?_); rintro e wb ⟨rfl, vb⟩; have kb0 := vb.c0; have kb1 := vb.c1) | (go_at_call 27; (with_reducible refine (M3.out _ vb).mono ?_); rintro e wc ⟨a1, d1, rfl, rc, vc⟩; have kc0 := vc.c0; have kc1 := vc.c1) | (go_at_call 28; (with_reducible refine (M4.out _ _ _ rc vc).mono ?_); rintro e wd ⟨a2, d2, rfl, rd, rc2, vd⟩; have kd0 := vd.c0; have kd1 := vd.c1) | (go_at_call 26; (with_reducible refine (M5.out _ _ _ _ _ rc2 rd vd).mono ?_); rintro e we ⟨rfl, ve⟩; have ke0 := ve.c0; have ke1 := ve.c1) | (go_at_call 29; (with_reducible refine (M6.out _ ve).mono ?_); rintro e wf ⟨a3, d3, rfl, rf, vf⟩; have kf0 := vf.c0; have kf1 := vf.c1) | (go_at_call 30; (with_reducible refine (M7.out _ _ _ rf vf).mono ?_); rintro e wg ⟨rfl, rg, vg⟩; have kg0 := vg.c0; have kg1 := vg.c1) | (go_at_call 26; (with_reducible refine (M8.out _ _ _ _ rg vg).mono ?_); rintro e wh ⟨rfl, vh⟩; have kh0 := vh.c0; have kh1 := vh.c1) | (go_at_call 22; (with_reducible refine (awake_any _).mono ?_); rintro e wi ⟨rfl, hbi⟩; have vi := vh.below hbi; have ki0 := vi.c0; have ki1 := vi.c1))
        go_wp2_with fail
        go_ret
        exact RetW.mk rfl vi.tp.bel
      · have z1 : (z == 0) = false := by simpa using z0
        go_wp2_with fail
        have HW := Lib.hid (HV.out.below (Below.refl _ _).drew)
        have c0 := HV.out.c0; have c1 := HV.out.c1
        have M1 : Hid (∀ W, WIv w w.heap.size a len cap H b c l q W → Calls Try.prog 24 #[.agg #[.slice b l.length c, .int .i64 q], .string s] W fun e w' => e = .returned (.bool (mayV l q s)) ∧ WIv w w.heap.size a len cap H b c l q w') := fun W hW => (may_any _ b l c q s W hW.row (by omega) (fun x hx => by have := SZ.out x hx; omega) (by omega)).mono fun e w' ⟨he, hb⟩ => ⟨he, hW.below hb⟩
        have M2 : Hid (∀ W, WIv w w.heap.size a len cap H b c l q W → Calls Try.prog 25 #[.agg #[.slice b l.length c, .int .i64 q], .string s] W fun e w' => e = .returned (.bool (mayV l q s)) ∧ WIv w w.heap.size a len cap H b c l q w') := fun W hW => (mayR_any _ b l c q s W hW.row (by omega) (fun x hx => by have := SZ.out x hx; omega) (by omega)).mono fun e w' ⟨he, hb⟩ => ⟨he, hW.below hb⟩
        have M3 : Hid (∀ W, WIv w w.heap.size a len cap H b c l q W → Calls Try.prog 27 #[.agg #[.slice b l.length c, .int .i64 q], .string s] W fun e w' => ∃ a1 c1, e = .returned (.agg #[.slice a1 (l.length + 1) c1, .int .i64 q]) ∧ StrRow 0 a1 c1 (l ++ [s]) w' ∧ WIv w w.heap.size a len cap H b c l q w') := fun W hW => (change_any _ b l c q s W hW.row (by omega)).mono fun e w' ⟨a1, c1, he, hr, hb⟩ => ⟨a1, c1, he, hr.mono (Nat.zero_le _), hW.below hb⟩
        have M4 : Hid (∀ W a0 c0, StrRow 0 a0 c0 (l ++ [s]) W → WIv w w.heap.size a len cap H b c l q W → Calls Try.prog 28 #[.agg #[.slice b l.length c, .int .i64 q], .string s] W fun e w' => ∃ a1 c1, e = .returned (.agg #[.slice a1 (l.length + 1) c1, .int .i64 q]) ∧ StrRow 0 a1 c1 (l ++ [s]) w' ∧ StrRow 0 a0 c0 (l ++ [s]) w' ∧ WIv w w.heap.size a len cap H b c l q w') := fun W a0 c0 h0 hW => (changeR_any _ b l c q s W hW.row (by omega)).mono fun e w' ⟨a1, c1, he, hr, hb⟩ => ⟨a1, c1, he, hr.mono (Nat.zero_le _), h0.below hb, hW.below hb⟩
        have M5 : Hid (∀ W a1 c1 a2 c2, StrRow 0 a1 c1 (l ++ [s]) W → StrRow 0 a2 c2 (l ++ [s]) W → WIv w w.heap.size a len cap H b c l q W → Calls Try.prog 26 #[.agg #[.slice a1 (l.length + 1) c1, .int .i64 q], .agg #[.slice a2 (l.length + 1) c2, .int .i64 q]] W fun e w' => e = .returned (.bool true) ∧ WIv w w.heap.size a len cap H b c l q w') := fun W a1 c1 a2 c2 h1 h2 hW => (same_any _ _ a1 a2 (l ++ [s]) _ c1 c2 q W h1 h2 (by simp) (by simp; omega) (fun x hx => by
            rcases List.mem_append.1 hx with hx | hx
            · have := SZ.out x hx; omega
            · rw [List.mem_singleton.1 hx]; omega)).mono fun e w' ⟨he, hb⟩ => ⟨he, hW.below hb⟩
        have M6 : Hid (∀ W, WIv w w.heap.size a len cap H b c l q W → Calls Try.prog 29 #[.agg #[.slice b l.length c, .int .i64 q], .int .i64 (at1 - 1)] W fun e w' => ∃ a1 c1, e = .returned (.agg #[.slice a1 l.length c1, .int .i64 (syncV l.length q (at1 - 1))]) ∧ StrRow 0 a1 c1 l w' ∧ WIv w w.heap.size a len cap H b c l q w') := fun W hW => (synced_any _ b l c q (at1 - 1) W hW.row (by omega)).mono fun e w' ⟨a1, c1, he, hr, hb⟩ => ⟨a1, c1, he, hr.mono (Nat.zero_le _), hW.below hb⟩
        have M7 : Hid (∀ W a0 c0, StrRow 0 a0 c0 l W → WIv w w.heap.size a len cap H b c l q W → Calls Try.prog 30 #[.agg #[.slice b l.length c, .int .i64 q], .int .i64 (at1 - 1)] W fun e w' => e = .returned (.agg #[.slice b l.length c, .int .i64 (syncV l.length q (at1 - 1))]) ∧ StrRow 0 a0 c0 l w' ∧ WIv w w.heap.size a len cap H b c l q w') := fun W a0 c0 h0 hW => (syncedR_any b l.length c q (at1 - 1) W).mono fun e w' ⟨he, hb⟩ => ⟨he, h0.below hb, hW.below hb⟩
        have M8 : Hid (∀ W a1 c1 y, StrRow 0 a1 c1 l W → WIv w w.heap.size a len cap H b c l q W → Calls Try.prog 26 #[.agg #[.slice a1 l.length c1, .int .i64 y], .agg #[.slice b l.length c, .int .i64 y]] W fun e w' => e = .returned (.bool true) ∧ WIv w w.heap.size a len cap H b c l q w') := fun W a1 c1 y h1 hW => (same_any _ _ a1 b l _ c1 c y W h1 hW.row rfl (by omega) (fun x hx => by have := SZ.out x hx; omega)).mono fun e w' ⟨he, hb⟩ => ⟨he, hW.below hb⟩
        generalize mayV l q s = r at *
        generalize syncV l.length q (at1 - 1) = y at *
        go_region_held3 (fun w' => w'.cell? ⟨H, 0, none⟩ = some (.slice b l.length c) ∧ w'.cell? ⟨H, 1, none⟩ = some (.int .i64 q)) (go_keep) (first | (go_at_call 24; (with_reducible refine (M1.out _ HW.out).mono ?_); rintro e wa ⟨rfl, va⟩; have ka0 := va.c0; have ka1 := va.c1) | (go_at_call 25; (with_reducible refine (M2.out _ va).mono ?_); rintro e wb ⟨rfl, vb⟩; have kb0 := vb.c0; have kb1 := vb.c1) | (go_at_call 27; (with_reducible refine (M3.out _ vb).mono ?_); rintro e wc ⟨a1, d1, rfl, rc, vc⟩; have kc0 := vc.c0; have kc1 := vc.c1) | (go_at_call 28; (with_reducible refine (M4.out _ _ _ rc vc).mono ?_); rintro e wd ⟨a2, d2, rfl, rd, rc2, vd⟩; have kd0 := vd.c0; have kd1 := vd.c1) | (go_at_call 26; (with_reducible refine (M5.out _ _ _ _ _ rc2 rd vd).mono ?_); rintro e we ⟨rfl, ve⟩; have ke0 := ve.c0; have ke1 := ve.c1) | (go_at_call 29; (with_reducible refine (M6.out _ ve).mono ?_); rintro e wf ⟨a3, d3, rfl, rf, vf⟩; have kf0 := vf.c0; have kf1 := vf.c1) | (go_at_call 30; (with_reducible refine (M7.out _ _ _ rf vf).mono ?_); rintro e wg ⟨rfl, rg, vg⟩; have kg0 := vg.c0; have kg1 := vg.c1) | (go_at_call 26; (with_reducible refine (M8.out _ _ _ _ rg vg).mono ?_); rintro e wh ⟨rfl, vh⟩; have kh0 := vh.c0; have kh1 := vh.c1) | (go_at_call 22; (with_reducible refine (awake_any _).mono ?_); rintro e wi ⟨rfl, hbi⟩; have vi := vh.below hbi; have ki0 := vi.c0; have ki1 := vi.c1))
        go_wp2_with fail
        go_ret
        exact RetW.mk rfl vi.tp.bel
  · have x1 : 0 < x := by omega
    have l1 : (0 : Int) < (l.length : Int) := by omega
    go_wp2_with fail
    have c1 := HV.out.c1
    have HW := Lib.hid (HV.out.below (Below.refl _ _).drew)
    obtain ⟨g, rfl⟩ := HV.out.some (by omega)
    have hcl : (l.length : Int) ≤ (c : Int) := by have := HV.out.capl (by omega); omega
    obtain ⟨f, hf⟩ : ∃ f : Nat → ByteArray, f = fun j => l.getD j ByteArray.empty := ⟨_, rfl⟩
    have HF : Hid (∀ W, WIv w w.heap.size a len cap H (some ⟨g, 0, none⟩) c l q W → ∀ j, j < l.length → W.cell? ⟨g, j, none⟩ = some (.string (f j))) := fun W hW j hj => by rw [hf]; exact hW.at j hj
    have HS : Hid (∀ j, j < l.length → (f j).size ≤ 1000) := fun j hj => by
      have := SZ.out _ (getD_mem hj)
      rw [hf]; show (l.getD j ByteArray.empty).size ≤ 1000; omega
    clear hf
    have call := HF.out _ HV.out
    clear HV
    go_region_held3 (fun w' => (w'.cell? ⟨H, 0, none⟩ = some (.slice (some ⟨g, 0, none⟩) l.length c) ∧ w'.cell? ⟨H, 1, none⟩ = some (.int .i64 q)) ∧ ∀ j, j < l.length → w'.cell? ⟨g, j, none⟩ = some (.string (f j))) (first | exact ⟨⟨c0, c1⟩, call⟩ | exact ⟨⟨ka0, ka1⟩, kall⟩ | exact call | exact kall | go_keep) (first | (go_at_call 10; (with_reducible refine (next_tp (l.length : Int) _ _ _ _ _ _ (by omega) (by omega) HW.out.tp).mono ?_); rintro e wa ⟨m, ma, mb, rfl, hk, tpn⟩; obtain ⟨m, rfl⟩ := Int.eq_ofNat_of_zero_le ma; have HV := Lib.hid (HW.out.tock hk.tock tpn); have ka0 := HV.out.c0; have ka1 := HV.out.c1; have kall := HF.out _ HV.out; have hm : m < l.length := (by omega)))
    have hs2 := HS.out m hm
    clear hk tpn ka0 ka1 kall call c0 c1 HF HS hm ma mb HW hcl l1 x1 xb
    generalize f m = s9 at *
    generalize (some (⟨g, 0, none⟩ : Addr) : Option Addr) = b at *
    go_wp2_with fail
    refine (next_tp 10 _ _ _ _ _ _ (by omega) (by omega) HV.out.tp).mono ?_
    rintro e w5 ⟨at1, at1a, at1b, rfl, hk, tpn⟩
    replace HV := Lib.hid (HV.out.tock hk.tock tpn)
    clear hk tpn
    go_wp2_with fail
    refine (next_tp 12 _ _ _ _ _ _ (by omega) (by omega) HV.out.tp).mono ?_
    rintro e w6 ⟨y, ya, yb, rfl, hk, tpn⟩
    replace HV := Lib.hid (HV.out.tock hk.tock tpn)
    clear hk tpn
    by_cases y0 : y = 0
    · subst y0
      go_wp2_with fail
      refine (odd_any _ _ _ _ _ _ HV.out.tp).mono ?_
      rintro e w6b ⟨q2, q2a, q2b, rfl, hk, tpn⟩
      replace HV := Lib.hid (HV.out.tock hk tpn)
      clear hk tpn yb
      have c1 := HV.out.c1; have f1 := HV.out.f1
      go_wp2_with fail
      clear c1 f1
      replace HV := Lib.hid (HV.out.setq q2)
      generalize (w6b.setCell { block := H, off := 1 } (Value.int IntKind.i64 q2)) = w6c at *
      go_wp2_with fail
      refine (next_tp 20 _ _ _ _ _ _ (by omega) (by omega) HV.out.tp).mono ?_
      rintro e w7 ⟨z, za, zb, rfl, hk, tpn⟩
      replace HV := Lib.hid (HV.out.tock hk.tock tpn)
      clear hk tpn
      by_cases z0 : z = 0
      · subst z0
        have c0 := HV.out.c0; have f0 := HV.out.f0
        clear zb
        go_wp2_with fail
        clear c0 f0
        replace HV := Lib.hid HV.out.setnil
        generalize (w7.setCell { block := H, off := 0 } (Value.slice none 0 0)) = w8 at *
        obtain ⟨b7, c7, l7, HV2, SZ2, l92⟩ : ∃ b7 c7 l7, Hid (WIv w w.heap.size a len cap H b7 c7 l7 q2 w8) ∧ Hid (∀ x : ByteArray, x ∈ l7 → x.size ≤ 8) ∧ l7.length ≤ 9 := ⟨none, 0, [], HV, (fun x hx => by cases hx), by simp⟩
        clear SZ HV
        have SZ := SZ2; have HV := HV2
        clear SZ2 HV2
        have HW := Lib.hid (HV.out.below (Below.refl _ _).drew)
        have c0 := HV.out.c0; have c1 := HV.out.c1
        have M1 : Hid (∀ W, WIv w w.heap.size a len cap H b7 c7 l7 q2 W → Calls Try.prog 24 #[.agg #[.slice b7 l7.length c7, .int .i64 q2], .string s9] W fun e w' => e = .returned (.bool (mayV l7 q2 s9)) ∧ WIv w w.heap.size a len cap H b7 c7 l7 q2 w') := fun W hW => (may_any _ b7 l7 c7 q2 s9 W hW.row (by omega) (fun x hx => by have := SZ.out x hx; omega) (by omega)).mono fun e w' ⟨he, hb⟩ => ⟨he, hW.below hb⟩
        have M2 : Hid (∀ W, WIv w w.heap.size a len cap H b7 c7 l7 q2 W → Calls Try.prog 25 #[.agg #[.slice b7 l7.length c7, .int .i64 q2], .string s9] W fun e w' => e = .returned (.bool (mayV l7 q2 s9)) ∧ WIv w w.heap.size a len cap H b7 c7 l7 q2 w') := fun W hW => (mayR_any _ b7 l7 c7 q2 s9 W hW.row (by omega) (fun x hx => by have := SZ.out x hx; omega) (by omega)).mono fun e w' ⟨he, hb⟩ => ⟨he, hW.below hb⟩
        have M3 : Hid (∀ W, WIv w w.heap.size a len cap H b7 c7 l7 q2 W → Calls Try.prog 27 #[.agg #[.slice b7 l7.length c7, .int .i64 q2], .string s9] W fun e w' => ∃ a1 c1, e = .returned (.agg #[.slice a1 (l7.length + 1) c1, .int .i64 q2]) ∧ StrRow 0 a1 c1 (l7 ++ [s9]) w' ∧ WIv w w.heap.size a len cap H b7 c7 l7 q2 w') := fun W hW => (change_any _ b7 l7 c7 q2 s9 W hW.row (by omega)).mono fun e w' ⟨a1, c1, he, hr, hb⟩ => ⟨a1, c1, he, hr.mono (Nat.zero_le _), hW.below hb⟩
        have M4 : Hid (∀ W a0 c0, StrRow 0 a0 c0 (l7 ++ [s9]) W → WIv w w.heap.size a len cap H b7 c7 l7 q2 W → Calls Try.prog 28 #[.agg #[.slice b7 l7.length c7, .int .i64 q2], .string s9] W fun e w' => ∃ a1 c1, e = .returned (.agg #[.slice a1 (l7.length + 1) c1, .int .i64 q2]) ∧ StrRow 0 a1 c1 (l7 ++ [s9]) w' ∧ StrRow 0 a0 c0 (l7 ++ [s9]) w' ∧ WIv w w.heap.size a len cap H b7 c7 l7 q2 w') := fun W a0 c0 h0 hW => (changeR_any _ b7 l7 c7 q2 s9 W hW.row (by omega)).mono fun e w' ⟨a1, c1, he, hr, hb⟩ => ⟨a1, c1, he, hr.mono (Nat.zero_le _), h0.below hb, hW.below hb⟩
        have M5 : Hid (∀ W a1 c1 a2 c2, StrRow 0 a1 c1 (l7 ++ [s9]) W → StrRow 0 a2 c2 (l7 ++ [s9]) W → WIv w w.heap.size a len cap H b7 c7 l7 q2 W → Calls Try.prog 26 #[.agg #[.slice a1 (l7.length + 1) c1, .int .i64 q2], .agg #[.slice a2 (l7.length + 1) c2, .int .i64 q2]] W fun e w' => e = .returned (.bool true) ∧ WIv w w.heap.size a len cap H b7 c7 l7 q2 w') := fun W a1 c1 a2 c2 h1 h2 hW => (same_any _ _ a1 a2 (l7 ++ [s9]) _ c1 c2 q2 W h1 h2 (by simp) (by simp; omega) (fun x hx => by
            rcases List.mem_append.1 hx with hx | hx
            · have := SZ.out x hx; omega
            · rw [List.mem_singleton.1 hx]; omega)).mono fun e w' ⟨he, hb⟩ => ⟨he, hW.below hb⟩
        have M6 : Hid (∀ W, WIv w w.heap.size a len cap H b7 c7 l7 q2 W → Calls Try.prog 29 #[.agg #[.slice b7 l7.length c7, .int .i64 q2], .int .i64 (at1 - 1)] W fun e w' => ∃ a1 c1, e = .returned (.agg #[.slice a1 l7.length c1, .int .i64 (syncV l7.length q2 (at1 - 1))]) ∧ StrRow 0 a1 c1 l7 w' ∧ WIv w w.heap.size a len cap H b7 c7 l7 q2 w') := fun W hW => (synced_any _ b7 l7 c7 q2 (at1 - 1) W hW.row (by omega)).mono fun e w' ⟨a1, c1, he, hr, hb⟩ => ⟨a1, c1, he, hr.mono (Nat.zero_le _), hW.below hb⟩
        have M7 : Hid (∀ W a0 c0, StrRow 0 a0 c0 l7 W → WIv w w.heap.size a len cap H b7 c7 l7 q2 W → Calls Try.prog 30 #[.agg #[.slice b7 l7.length c7, .int .i64 q2], .int .i64 (at1 - 1)] W fun e w' => e = .returned (.agg #[.slice b7 l7.length c7, .int .i64 (syncV l7.length q2 (at1 - 1))]) ∧ StrRow 0 a0 c0 l7 w' ∧ WIv w w.heap.size a len cap H b7 c7 l7 q2 w') := fun W a0 c0 h0 hW => (syncedR_any b7 l7.length c7 q2 (at1 - 1) W).mono fun e w' ⟨he, hb⟩ => ⟨he, h0.below hb, hW.below hb⟩
        have M8 : Hid (∀ W a1 c1 y, StrRow 0 a1 c1 l7 W → WIv w w.heap.size a len cap H b7 c7 l7 q2 W → Calls Try.prog 26 #[.agg #[.slice a1 l7.length c1, .int .i64 y], .agg #[.slice b7 l7.length c7, .int .i64 y]] W fun e w' => e = .returned (.bool true) ∧ WIv w w.heap.size a len cap H b7 c7 l7 q2 w') := fun W a1 c1 y h1 hW => (same_any _ _ a1 b7 l7 _ c1 c7 y W h1 hW.row rfl (by omega) (fun x hx => by have := SZ.out x hx; omega)).mono fun e w' ⟨he, hb⟩ => ⟨he, hW.below hb⟩
        generalize mayV l7 q2 s9 = r at *
        generalize syncV l7.length q2 (at1 - 1) = y at *
        go_region_held3 (fun w' => w'.cell? ⟨H, 0, none⟩ = some (.slice b7 l7.length c7) ∧ w'.cell? ⟨H, 1, none⟩ = some (.int .i64 q2)) (go_keep) (first | (go_at_call 24; (with_reducible refine (M1.out _ HW.out).mono ?_); rintro e wa ⟨rfl, va⟩; have ka0 := va.c0; have ka1 := va.c1) | (go_at_call 25; (with_reducible refine (M2.out _ va).mono ?_); rintro e wb ⟨rfl, vb⟩; have kb0 := vb.c0; have kb1 := vb.c1) | (go_at_call 27; (with_reducible refine (M3.out _ vb).mono ?_); rintro e wc ⟨a1, d1, rfl, rc, vc⟩; have kc0 := vc.c0; have kc1 := vc.c1) | (go_at_call 28; (with_reducible refine (M4.out _ _ _ rc vc).mono ?_); rintro e wd ⟨a2, d2, rfl, rd, rc2, vd⟩; have kd0 := vd.c0; have kd1 := vd.c1) | (go_at_call 26; (with_reducible refine (M5.out _ _ _ _ _ rc2 rd vd).mono ?_); rintro e we ⟨rfl, ve⟩; have ke0 := ve.c0; have ke1 := ve.c1) | (go_at_call 29; (with_reducible refine (M6.out _ ve).mono ?_); rintro e wf ⟨a3, d3, rfl, rf, vf⟩; have kf0 := vf.c0; have kf1 := vf.c1) | (go_at_call 30; (with_reducible refine (M7.out _ _ _ rf vf).mono ?_); rintro e wg ⟨rfl, rg, vg⟩; have kg0 := vg.c0; have kg1 := vg.c1) | (go_at_call 26; (with_reducible refine (M8.out _ _ _ _ rg vg).mono ?_); rintro e wh ⟨rfl, vh⟩; have kh0 := vh.c0; have kh1 := vh.c1) | (go_at_call 22; (with_reducible refine (awake_any _).mono ?_); rintro e wi ⟨rfl, hbi⟩; have vi := vh.below hbi; have ki0 := vi.c0; have ki1 := vi.c1))
        go_wp2_with fail
        go_ret
        exact RetW.mk rfl vi.tp.bel
      · have z1 : (z == 0) = false := by simpa using z0
        go_wp2_with fail
        have HW := Lib.hid (HV.out.below (Below.refl _ _).drew)
        have c0 := HV.out.c0; have c1 := HV.out.c1
        have M1 : Hid (∀ W, WIv w w.heap.size a len cap H b c l q2 W → Calls Try.prog 24 #[.agg #[.slice b l.length c, .int .i64 q2], .string s9] W fun e w' => e = .returned (.bool (mayV l q2 s9)) ∧ WIv w w.heap.size a len cap H b c l q2 w') := fun W hW => (may_any _ b l c q2 s9 W hW.row (by omega) (fun x hx => by have := SZ.out x hx; omega) (by omega)).mono fun e w' ⟨he, hb⟩ => ⟨he, hW.below hb⟩
        have M2 : Hid (∀ W, WIv w w.heap.size a len cap H b c l q2 W → Calls Try.prog 25 #[.agg #[.slice b l.length c, .int .i64 q2], .string s9] W fun e w' => e = .returned (.bool (mayV l q2 s9)) ∧ WIv w w.heap.size a len cap H b c l q2 w') := fun W hW => (mayR_any _ b l c q2 s9 W hW.row (by omega) (fun x hx => by have := SZ.out x hx; omega) (by omega)).mono fun e w' ⟨he, hb⟩ => ⟨he, hW.below hb⟩
        have M3 : Hid (∀ W, WIv w w.heap.size a len cap H b c l q2 W → Calls Try.prog 27 #[.agg #[.slice b l.length c, .int .i64 q2], .string s9] W fun e w' => ∃ a1 c1, e = .returned (.agg #[.slice a1 (l.length + 1) c1, .int .i64 q2]) ∧ StrRow 0 a1 c1 (l ++ [s9]) w' ∧ WIv w w.heap.size a len cap H b c l q2 w') := fun W hW => (change_any _ b l c q2 s9 W hW.row (by omega)).mono fun e w' ⟨a1, c1, he, hr, hb⟩ => ⟨a1, c1, he, hr.mono (Nat.zero_le _), hW.below hb⟩
        have M4 : Hid (∀ W a0 c0, StrRow 0 a0 c0 (l ++ [s9]) W → WIv w w.heap.size a len cap H b c l q2 W → Calls Try.prog 28 #[.agg #[.slice b l.length c, .int .i64 q2], .string s9] W fun e w' => ∃ a1 c1, e = .returned (.agg #[.slice a1 (l.length + 1) c1, .int .i64 q2]) ∧ StrRow 0 a1 c1 (l ++ [s9]) w' ∧ StrRow 0 a0 c0 (l ++ [s9]) w' ∧ WIv w w.heap.size a len cap H b c l q2 w') := fun W a0 c0 h0 hW => (changeR_any _ b l c q2 s9 W hW.row (by omega)).mono fun e w' ⟨a1, c1, he, hr, hb⟩ => ⟨a1, c1, he, hr.mono (Nat.zero_le _), h0.below hb, hW.below hb⟩
        have M5 : Hid (∀ W a1 c1 a2 c2, StrRow 0 a1 c1 (l ++ [s9]) W → StrRow 0 a2 c2 (l ++ [s9]) W → WIv w w.heap.size a len cap H b c l q2 W → Calls Try.prog 26 #[.agg #[.slice a1 (l.length + 1) c1, .int .i64 q2], .agg #[.slice a2 (l.length + 1) c2, .int .i64 q2]] W fun e w' => e = .returned (.bool true) ∧ WIv w w.heap.size a len cap H b c l q2 w') := fun W a1 c1 a2 c2 h1 h2 hW => (same_any _ _ a1 a2 (l ++ [s9]) _ c1 c2 q2 W h1 h2 (by simp) (by simp; omega) (fun x hx => by
            rcases List.mem_append.1 hx with hx | hx
            · have := SZ.out x hx; omega
            · rw [List.mem_singleton.1 hx]; omega)).mono fun e w' ⟨he, hb⟩ => ⟨he, hW.below hb⟩
        have M6 : Hid (∀ W, WIv w w.heap.size a len cap H b c l q2 W → Calls Try.prog 29 #[.agg #[.slice b l.length c, .int .i64 q2], .int .i64 (at1 - 1)] W fun e w' => ∃ a1 c1, e = .returned (.agg #[.slice a1 l.length c1, .int .i64 (syncV l.length q2 (at1 - 1))]) ∧ StrRow 0 a1 c1 l w' ∧ WIv w w.heap.size a len cap H b c l q2 w') := fun W hW => (synced_any _ b l c q2 (at1 - 1) W hW.row (by omega)).mono fun e w' ⟨a1, c1, he, hr, hb⟩ => ⟨a1, c1, he, hr.mono (Nat.zero_le _), hW.below hb⟩
        have M7 : Hid (∀ W a0 c0, StrRow 0 a0 c0 l W → WIv w w.heap.size a len cap H b c l q2 W → Calls Try.prog 30 #[.agg #[.slice b l.length c, .int .i64 q2], .int .i64 (at1 - 1)] W fun e w' => e = .returned (.agg #[.slice b l.length c, .int .i64 (syncV l.length q2 (at1 - 1))]) ∧ StrRow 0 a0 c0 l w' ∧ WIv w w.heap.size a len cap H b c l q2 w') := fun W a0 c0 h0 hW => (syncedR_any b l.length c q2 (at1 - 1) W).mono fun e w' ⟨he, hb⟩ => ⟨he, h0.below hb, hW.below hb⟩
        have M8 : Hid (∀ W a1 c1 y, StrRow 0 a1 c1 l W → WIv w w.heap.size a len cap H b c l q2 W → Calls Try.prog 26 #[.agg #[.slice a1 l.length c1, .int .i64 y], .agg #[.slice b l.length c, .int .i64 y]] W fun e w' => e = .returned (.bool true) ∧ WIv w w.heap.size a len cap H b c l q2 w') := fun W a1 c1 y h1 hW => (same_any _ _ a1 b l _ c1 c y W h1 hW.row rfl (by omega) (fun x hx => by have := SZ.out x hx; omega)).mono fun e w' ⟨he, hb⟩ => ⟨he, hW.below hb⟩
        generalize mayV l q2 s9 = r at *
        generalize syncV l.length q2 (at1 - 1) = y at *
        go_region_held3 (fun w' => w'.cell? ⟨H, 0, none⟩ = some (.slice b l.length c) ∧ w'.cell? ⟨H, 1, none⟩ = some (.int .i64 q2)) (go_keep) (first | (go_at_call 24; (with_reducible refine (M1.out _ HW.out).mono ?_); rintro e wa ⟨rfl, va⟩; have ka0 := va.c0; have ka1 := va.c1) | (go_at_call 25; (with_reducible refine (M2.out _ va).mono ?_); rintro e wb ⟨rfl, vb⟩; have kb0 := vb.c0; have kb1 := vb.c1) | (go_at_call 27; (with_reducible refine (M3.out _ vb).mono ?_); rintro e wc ⟨a1, d1, rfl, rc, vc⟩; have kc0 := vc.c0; have kc1 := vc.c1) | (go_at_call 28; (with_reducible refine (M4.out _ _ _ rc vc).mono ?_); rintro e wd ⟨a2, d2, rfl, rd, rc2, vd⟩; have kd0 := vd.c0; have kd1 := vd.c1) | (go_at_call 26; (with_reducible refine (M5.out _ _ _ _ _ rc2 rd vd).mono ?_); rintro e we ⟨rfl, ve⟩; have ke0 := ve.c0; have ke1 := ve.c1) | (go_at_call 29; (with_reducible refine (M6.out _ ve).mono ?_); rintro e wf ⟨a3, d3, rfl, rf, vf⟩; have kf0 := vf.c0; have kf1 := vf.c1) | (go_at_call 30; (with_reducible refine (M7.out _ _ _ rf vf).mono ?_); rintro e wg ⟨rfl, rg, vg⟩; have kg0 := vg.c0; have kg1 := vg.c1) | (go_at_call 26; (with_reducible refine (M8.out _ _ _ _ rg vg).mono ?_); rintro e wh ⟨rfl, vh⟩; have kh0 := vh.c0; have kh1 := vh.c1) | (go_at_call 22; (with_reducible refine (awake_any _).mono ?_); rintro e wi ⟨rfl, hbi⟩; have vi := vh.below hbi; have ki0 := vi.c0; have ki1 := vi.c1))
        go_wp2_with fail
        go_ret
        exact RetW.mk rfl vi.tp.bel
    · have y1 : (y == 0) = false := by simpa using y0
      go_wp2_with fail
      refine (next_tp 20 _ _ _ _ _ _ (by omega) (by omega) HV.out.tp).mono ?_
      rintro e w7 ⟨z, za, zb, rfl, hk, tpn⟩
      replace HV := Lib.hid (HV.out.tock hk.tock tpn)
      clear hk tpn
      by_cases z0 : z = 0
      · subst z0
        have c0 := HV.out.c0; have f0 := HV.out.f0
        clear zb
        go_wp2_with fail
        clear c0 f0
        replace HV := Lib.hid HV.out.setnil
        generalize (w7.setCell { block := H, off := 0 } (Value.slice none 0 0)) = w8 at *
        obtain ⟨b7, c7, l7, HV2, SZ2, l92⟩ : ∃ b7 c7 l7, Hid (WIv w w.heap.size a len cap H b7 c7 l7 q w8) ∧ Hid (∀ x : ByteArray, x ∈ l7 → x.size ≤ 8) ∧ l7.length ≤ 9 := ⟨none, 0, [], HV, (fun x hx => by cases hx), by simp⟩
        clear SZ HV
        have SZ := SZ2; have HV := HV2
        clear SZ2 HV2
        have HW := Lib.hid (HV.out.below (Below.refl _ _).drew)
        have c0 := HV.out.c0; have c1 := HV.out.c1
        have M1 : Hid (∀ W, WIv w w.heap.size a len cap H b7 c7 l7 q W → Calls Try.prog 24 #[.agg #[.slice b7 l7.length c7, .int .i64 q], .string s9] W fun e w' => e = .returned (.bool (mayV l7 q s9)) ∧ WIv w w.heap.size a len cap H b7 c7 l7 q w') := fun W hW => (may_any _ b7 l7 c7 q s9 W hW.row (by omega) (fun x hx => by have := SZ.out x hx; omega) (by omega)).mono fun e w' ⟨he, hb⟩ => ⟨he, hW.below hb⟩
        have M2 : Hid (∀ W, WIv w w.heap.size a len cap H b7 c7 l7 q W → Calls Try.prog 25 #[.agg #[.slice b7 l7.length c7, .int .i64 q], .string s9] W fun e w' => e = .returned (.bool (mayV l7 q s9)) ∧ WIv w w.heap.size a len cap H b7 c7 l7 q w') := fun W hW => (mayR_any _ b7 l7 c7 q s9 W hW.row (by omega) (fun x hx => by have := SZ.out x hx; omega) (by omega)).mono fun e w' ⟨he, hb⟩ => ⟨he, hW.below hb⟩
        have M3 : Hid (∀ W, WIv w w.heap.size a len cap H b7 c7 l7 q W → Calls Try.prog 27 #[.agg #[.slice b7 l7.length c7, .int .i64 q], .string s9] W fun e w' => ∃ a1 c1, e = .returned (.agg #[.slice a1 (l7.length + 1) c1, .int .i64 q]) ∧ StrRow 0 a1 c1 (l7 ++ [s9]) w' ∧ WIv w w.heap.size a len cap H b7 c7 l7 q w') := fun W hW => (change_any _ b7 l7 c7 q s9 W hW.row (by omega)).mono fun e w' ⟨a1, c1, he, hr, hb⟩ => ⟨a1, c1, he, hr.mono (Nat.zero_le _), hW.below hb⟩
        have M4 : Hid (∀ W a0 c0, StrRow 0 a0 c0 (l7 ++ [s9]) W → WIv w w.heap.size a len cap H b7 c7 l7 q W → Calls Try.prog 28 #[.agg #[.slice b7 l7.length c7, .int .i64 q], .string s9] W fun e w' => ∃ a1 c1, e = .returned (.agg #[.slice a1 (l7.length + 1) c1, .int .i64 q]) ∧ StrRow 0 a1 c1 (l7 ++ [s9]) w' ∧ StrRow 0 a0 c0 (l7 ++ [s9]) w' ∧ WIv w w.heap.size a len cap H b7 c7 l7 q w') := fun W a0 c0 h0 hW => (changeR_any _ b7 l7 c7 q s9 W hW.row (by omega)).mono fun e w' ⟨a1, c1, he, hr, hb⟩ => ⟨a1, c1, he, hr.mono (Nat.zero_le _), h0.below hb, hW.below hb⟩
        have M5 : Hid (∀ W a1 c1 a2 c2, StrRow 0 a1 c1 (l7 ++ [s9]) W → StrRow 0 a2 c2 (l7 ++ [s9]) W → WIv w w.heap.size a len cap H b7 c7 l7 q W → Calls Try.prog 26 #[.agg #[.slice a1 (l7.length + 1) c1, .int .i64 q], .agg #[.slice a2 (l7.length + 1) c2, .int .i64 q]] W fun e w' => e = .returned (.bool true) ∧ WIv w w.heap.size a len cap H b7 c7 l7 q w') := fun W a1 c1 a2 c2 h1 h2 hW => (same_any _ _ a1 a2 (l7 ++ [s9]) _ c1 c2 q W h1 h2 (by simp) (by simp; omega) (fun x hx => by
            rcases List.mem_append.1 hx with hx | hx
            · have := SZ.out x hx; omega
            · rw [List.mem_singleton.1 hx]; omega)).mono fun e w' ⟨he, hb⟩ => ⟨he, hW.below hb⟩
        have M6 : Hid (∀ W, WIv w w.heap.size a len cap H b7 c7 l7 q W → Calls Try.prog 29 #[.agg #[.slice b7 l7.length c7, .int .i64 q], .int .i64 (at1 - 1)] W fun e w' => ∃ a1 c1, e = .returned (.agg #[.slice a1 l7.length c1, .int .i64 (syncV l7.length q (at1 - 1))]) ∧ StrRow 0 a1 c1 l7 w' ∧ WIv w w.heap.size a len cap H b7 c7 l7 q w') := fun W hW => (synced_any _ b7 l7 c7 q (at1 - 1) W hW.row (by omega)).mono fun e w' ⟨a1, c1, he, hr, hb⟩ => ⟨a1, c1, he, hr.mono (Nat.zero_le _), hW.below hb⟩
        have M7 : Hid (∀ W a0 c0, StrRow 0 a0 c0 l7 W → WIv w w.heap.size a len cap H b7 c7 l7 q W → Calls Try.prog 30 #[.agg #[.slice b7 l7.length c7, .int .i64 q], .int .i64 (at1 - 1)] W fun e w' => e = .returned (.agg #[.slice b7 l7.length c7, .int .i64 (syncV l7.length q (at1 - 1))]) ∧ StrRow 0 a0 c0 l7 w' ∧ WIv w w.heap.size a len cap H b7 c7 l7 q w') := fun W a0 c0 h0 hW => (syncedR_any b7 l7.length c7 q (at1 - 1) W).mono fun e w' ⟨he, hb⟩ => ⟨he, h0.below hb, hW.below hb⟩
        have M8 : Hid (∀ W a1 c1 y, StrRow 0 a1 c1 l7 W → WIv w w.heap.size a len cap H b7 c7 l7 q W → Calls Try.prog 26 #[.agg #[.slice a1 l7.length c1, .int .i64 y], .agg #[.slice b7 l7.length c7, .int .i64 y]] W fun e w' => e = .returned (.bool true) ∧ WIv w w.heap.size a len cap H b7 c7 l7 q w') := fun W a1 c1 y h1 hW => (same_any _ _ a1 b7 l7 _ c1 c7 y W h1 hW.row rfl (by omega) (fun x hx => by have := SZ.out x hx; omega)).mono fun e w' ⟨he, hb⟩ => ⟨he, hW.below hb⟩
        generalize mayV l7 q s9 = r at *
        generalize syncV l7.length q (at1 - 1) = y at *
        go_region_held3 (fun w' => w'.cell? ⟨H, 0, none⟩ = some (.slice b7 l7.length c7) ∧ w'.cell? ⟨H, 1, none⟩ = some (.int .i64 q)) (go_keep) (first | (go_at_call 24; (with_reducible refine (M1.out _ HW.out).mono ?_); rintro e wa ⟨rfl, va⟩; have ka0 := va.c0; have ka1 := va.c1) | (go_at_call 25; (with_reducible refine (M2.out _ va).mono ?_); rintro e wb ⟨rfl, vb⟩; have kb0 := vb.c0; have kb1 := vb.c1) | (go_at_call 27; (with_reducible refine (M3.out _ vb).mono ?_); rintro e wc ⟨a1, d1, rfl, rc, vc⟩; have kc0 := vc.c0; have kc1 := vc.c1) | (go_at_call 28; (with_reducible refine (M4.out _ _ _ rc vc).mono ?_); rintro e wd ⟨a2, d2, rfl, rd, rc2, vd⟩; have kd0 := vd.c0; have kd1 := vd.c1) | (go_at_call 26; (with_reducible refine (M5.out _ _ _ _ _ rc2 rd vd).mono ?_); rintro e we ⟨rfl, ve⟩; have ke0 := ve.c0; have ke1 := ve.c1) | (go_at_call 29; (with_reducible refine (M6.out _ ve).mono ?_); rintro e wf ⟨a3, d3, rfl, rf, vf⟩; have kf0 := vf.c0; have kf1 := vf.c1) | (go_at_call 30; (with_reducible refine (M7.out _ _ _ rf vf).mono ?_); rintro e wg ⟨rfl, rg, vg⟩; have kg0 := vg.c0; have kg1 := vg.c1) | (go_at_call 26; (with_reducible refine (M8.out _ _ _ _ rg vg).mono ?_); rintro e wh ⟨rfl, vh⟩; have kh0 := vh.c0; have kh1 := vh.c1) | (go_at_call 22; (with_reducible refine (awake_any _).mono ?_); rintro e wi ⟨rfl, hbi⟩; have vi := vh.below hbi; have ki0 := vi.c0; have ki1 := vi.c1))
        go_wp2_with fail
        go_ret
        exact RetW.mk rfl vi.tp.bel
      · have z1 : (z == 0) = false := by simpa using z0
        go_wp2_with fail
        have HW := Lib.hid (HV.out.below (Below.refl _ _).drew)
        have c0 := HV.out.c0; have c1 := HV.out.c1
        have M1 : Hid (∀ W, WIv w w.heap.size a len cap H b c l q W → Calls Try.prog 24 #[.agg #[.slice b l.length c, .int .i64 q], .string s9] W fun e w' => e = .returned (.bool (mayV l q s9)) ∧ WIv w w.heap.size a len cap H b c l q w') := fun W hW => (may_any _ b l c q s9 W hW.row (by omega) (fun x hx => by have := SZ.out x hx; omega) (by omega)).mono fun e w' ⟨he, hb⟩ => ⟨he, hW.below hb⟩
        have M2 : Hid (∀ W, WIv w w.heap.size a len cap H b c l q W → Calls Try.prog 25 #[.agg #[.slice b l.length c, .int .i64 q], .string s9] W fun e w' => e = .returned (.bool (mayV l q s9)) ∧ WIv w w.heap.size a len cap H b c l q w') := fun W hW => (mayR_any _ b l c q s9 W hW.row (by omega) (fun x hx => by have := SZ.out x hx; omega) (by omega)).mono fun e w' ⟨he, hb⟩ => ⟨he, hW.below hb⟩
        have M3 : Hid (∀ W, WIv w w.heap.size a len cap H b c l q W → Calls Try.prog 27 #[.agg #[.slice b l.length c, .int .i64 q], .string s9] W fun e w' => ∃ a1 c1, e = .returned (.agg #[.slice a1 (l.length + 1) c1, .int .i64 q]) ∧ StrRow 0 a1 c1 (l ++ [s9]) w' ∧ WIv w w.heap.size a len cap H b c l q w') := fun W hW => (change_any _ b l c q s9 W hW.row (by omega)).mono fun e w' ⟨a1, c1, he, hr, hb⟩ => ⟨a1, c1, he, hr.mono (Nat.zero_le _), hW.below hb⟩
        have M4 : Hid (∀ W a0 c0, StrRow 0 a0 c0 (l ++ [s9]) W → WIv w w.heap.size a len cap H b c l q W → Calls Try.prog 28 #[.agg #[.slice b l.length c, .int .i64 q], .string s9] W fun e w' => ∃ a1 c1, e = .returned (.agg #[.slice a1 (l.length + 1) c1, .int .i64 q]) ∧ StrRow 0 a1 c1 (l ++ [s9]) w' ∧ StrRow 0 a0 c0 (l ++ [s9]) w' ∧ WIv w w.heap.size a len cap H b c l q w') := fun W a0 c0 h0 hW => (changeR_any _ b l c q s9 W hW.row (by omega)).mono fun e w' ⟨a1, c1, he, hr, hb⟩ => ⟨a1, c1, he, hr.mono (Nat.zero_le _), h0.below hb, hW.below hb⟩
        have M5 : Hid (∀ W a1 c1 a2 c2, StrRow 0 a1 c1 (l ++ [s9]) W → StrRow 0 a2 c2 (l ++ [s9]) W → WIv w w.heap.size a len cap H b c l q W → Calls Try.prog 26 #[.agg #[.slice a1 (l.length + 1) c1, .int .i64 q], .agg #[.slice a2 (l.length + 1) c2, .int .i64 q]] W fun e w' => e = .returned (.bool true) ∧ WIv w w.heap.size a len cap H b c l q w') := fun W a1 c1 a2 c2 h1 h2 hW => (same_any _ _ a1 a2 (l ++ [s9]) _ c1 c2 q W h1 h2 (by simp) (by simp; omega) (fun x hx => by
            rcases List.mem_append.1 hx with hx | hx
            · have := SZ.out x hx; omega
            · rw [List.mem_singleton.1 hx]; omega)).mono fun e w' ⟨he, hb⟩ => ⟨he, hW.below hb⟩
        have M6 : Hid (∀ W, WIv w w.heap.size a len cap H b c l q W → Calls Try.prog 29 #[.agg #[.slice b l.length c, .int .i64 q], .int .i64 (at1 - 1)] W fun e w' => ∃ a1 c1, e = .returned (.agg #[.slice a1 l.length c1, .int .i64 (syncV l.length q (at1 - 1))]) ∧ StrRow 0 a1 c1 l w' ∧ WIv w w.heap.size a len cap H b c l q w') := fun W hW => (synced_any _ b l c q (at1 - 1) W hW.row (by omega)).mono fun e w' ⟨a1, c1, he, hr, hb⟩ => ⟨a1, c1, he, hr.mono (Nat.zero_le _), hW.below hb⟩
        have M7 : Hid (∀ W a0 c0, StrRow 0 a0 c0 l W → WIv w w.heap.size a len cap H b c l q W → Calls Try.prog 30 #[.agg #[.slice b l.length c, .int .i64 q], .int .i64 (at1 - 1)] W fun e w' => e = .returned (.agg #[.slice b l.length c, .int .i64 (syncV l.length q (at1 - 1))]) ∧ StrRow 0 a0 c0 l w' ∧ WIv w w.heap.size a len cap H b c l q w') := fun W a0 c0 h0 hW => (syncedR_any b l.length c q (at1 - 1) W).mono fun e w' ⟨he, hb⟩ => ⟨he, h0.below hb, hW.below hb⟩
        have M8 : Hid (∀ W a1 c1 y, StrRow 0 a1 c1 l W → WIv w w.heap.size a len cap H b c l q W → Calls Try.prog 26 #[.agg #[.slice a1 l.length c1, .int .i64 y], .agg #[.slice b l.length c, .int .i64 y]] W fun e w' => e = .returned (.bool true) ∧ WIv w w.heap.size a len cap H b c l q w') := fun W a1 c1 y h1 hW => (same_any _ _ a1 b l _ c1 c y W h1 hW.row rfl (by omega) (fun x hx => by have := SZ.out x hx; omega)).mono fun e w' ⟨he, hb⟩ => ⟨he, hW.below hb⟩
        generalize mayV l q s9 = r at *
        generalize syncV l.length q (at1 - 1) = y at *
        go_region_held3 (fun w' => w'.cell? ⟨H, 0, none⟩ = some (.slice b l.length c) ∧ w'.cell? ⟨H, 1, none⟩ = some (.int .i64 q)) (go_keep) (first | (go_at_call 24; (with_reducible refine (M1.out _ HW.out).mono ?_); rintro e wa ⟨rfl, va⟩; have ka0 := va.c0; have ka1 := va.c1) | (go_at_call 25; (with_reducible refine (M2.out _ va).mono ?_); rintro e wb ⟨rfl, vb⟩; have kb0 := vb.c0; have kb1 := vb.c1) | (go_at_call 27; (with_reducible refine (M3.out _ vb).mono ?_); rintro e wc ⟨a1, d1, rfl, rc, vc⟩; have kc0 := vc.c0; have kc1 := vc.c1) | (go_at_call 28; (with_reducible refine (M4.out _ _ _ rc vc).mono ?_); rintro e wd ⟨a2, d2, rfl, rd, rc2, vd⟩; have kd0 := vd.c0; have kd1 := vd.c1) | (go_at_call 26; (with_reducible refine (M5.out _ _ _ _ _ rc2 rd vd).mono ?_); rintro e we ⟨rfl, ve⟩; have ke0 := ve.c0; have ke1 := ve.c1) | (go_at_call 29; (with_reducible refine (M6.out _ ve).mono ?_); rintro e wf ⟨a3, d3, rfl, rf, vf⟩; have kf0 := vf.c0; have kf1 := vf.c1) | (go_at_call 30; (with_reducible refine (M7.out _ _ _ rf vf).mono ?_); rintro e wg ⟨rfl, rg, vg⟩; have kg0 := vg.c0; have kg1 := vg.c1) | (go_at_call 26; (with_reducible refine (M8.out _ _ _ _ rg vg).mono ?_); rintro e wh ⟨rfl, vh⟩; have kh0 := vh.c0; have kh1 := vh.c1) | (go_at_call 22; (with_reducible refine (awake_any _).mono ?_); rintro e wi ⟨rfl, hbi⟩; have vi := vh.below hbi; have ki0 := vi.c0; have ki1 := vi.c1))
        go_wp2_with fail
        go_ret
        exact RetW.mk rfl vi.tp.bel
end Go.Proofs.Ytebdnnfaghhpkaa
