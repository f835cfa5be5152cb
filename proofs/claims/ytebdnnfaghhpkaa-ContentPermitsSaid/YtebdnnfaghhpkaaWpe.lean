/- The walk of ContentPermits. -/
import Derived.Test.YtebdnnfaghhpkaaHw
import Derived.Test.YtebdnnfaghhpkaaPe
namespace Go.Proofs.Ytebdnnfaghhpkaa
open Go.ChangeShapes Go.WideShapes Go.ChangeAt Go.RowKit

set_option maxRecDepth 100000 in
set_option maxHeartbeats 16000000 in
theorem permits_walk (a : Option Addr) (len cap : Nat) (w : World) (ha : ArgRow w a len) (hl : len ≤ maxLen) :
    Calls Try.prog 5 #[.slice a len cap] w (RetW (.bool true) w) := by
  have HT := Lib.hid (tape_start w a len cap ha hl)
  go_enter Try.func5, Try.ntmps5
  go_wp2_with fail
  have HK : Hid (Tock w.heap.size w (w.alloc (.cells #[.slice a len cap, .int .i64 0] 25))) := Tock.ofBelow ((Below.refl w.heap.size w).alloc (Nat.le_refl _) _) (Nat.le_refl _)
  generalize w.alloc (.cells #[.slice a len cap, .int .i64 0] 25) = w0 at *
  refine (history_any _ _ _ _ _ _ HT.out).mono ?_
  rintro e w1 ⟨b, c, l, q, rfl, row, sz, l9, q0, q1, hk, tp1⟩
  obtain ⟨q, rfl⟩ := Int.eq_ofNat_of_zero_le q0
  have SZ := Lib.hid sz
  have HV := Lib.hid (WIv.start (q := q) tp1 (HK.out.trans hk) row)
  clear sz row hk tp1 HT HK
  have c0 := HV.out.c0; have c1 := HV.out.c1
  go_wp2_with fail
  generalize w1.alloc (.cells #[.slice b l.length c, .int .i64 q] 40) = w2 at *
  generalize w1.heap.size = H at *
  obtain ⟨g, rfl⟩ := HV.out.some (by omega)
  have hcl : (l.length : Int) ≤ (c : Int) := by have := HV.out.capl (by omega); omega
  obtain ⟨f, hf⟩ : ∃ f : Nat → ByteArray, f = fun j => l.getD j ByteArray.empty := ⟨_, rfl⟩
  have HF : Hid (∀ W, WIv w w.heap.size a len cap H (some ⟨g, 0, none⟩) c l q W → ∀ j, j < l.length → W.cell? ⟨g, j, none⟩ = some (.string (f j))) := fun W hW j hj => by rw [hf]; exact hW.at j hj
  have HM : Hid (∀ k, q ≤ k → k < l.length → ∀ W, WIv w w.heap.size a len cap H (some ⟨g, 0, none⟩) c l q W → Calls Try.prog 24 #[.agg #[.slice (some ⟨g, 0, none⟩) l.length c, .int .i64 q], .string (f k)] W fun e w' => e = .returned (.bool true) ∧ WIv w w.heap.size a len cap H (some ⟨g, 0, none⟩) c l q w') := by
    intro k hk1 hk2 W hW
    refine (may_any _ _ l c q (f k) W hW.row (by omega) (fun x hx => by have := SZ.out x hx; omega) (by
      have := SZ.out _ (getD_mem hk2)
      rw [hf]; show (l.getD k ByteArray.empty).size ≤ 10000; omega)).mono fun e w' ⟨he, hb⟩ => ⟨?_, hW.below hb⟩
    rw [he, hf, may_own hk1 hk2]
  clear hf
  clear c0 c1
  go_loopw [5] (fun v4 wr => ∃ k : Nat, q ≤ k ∧ k ≤ l.length ∧ v4 = .int .i64 k ∧ Hid (WIv w w.heap.size a len cap H (some ⟨g, 0, none⟩) c l q wr)) (fun v4 _ => 100 - (intOf v4).toNat)
  case atStart => exact ⟨q, Nat.le_refl _, by omega, rfl, HV⟩
  case round =>
    clear HV
    obtain ⟨k, hk1, hk2, rfl, HV⟩ := hrel
    have c0 := HV.out.c0; have c1 := HV.out.c1
    by_cases hlt : k < l.length
    · have hlt' : (k : Int) < (l.length : Int) := by omega
      have call := HF.out _ HV.out
      have hm := Lib.hid (HM.out k hk1 hlt)
      have HW := Lib.hid (HV.out.below (Below.refl _ _).drew)
      go_wp2_with fail
      go_region_held3 (fun w' => (w'.cell? ⟨H, 0, none⟩ = some (.slice (some ⟨g, 0, none⟩) l.length c) ∧ w'.cell? ⟨H, 1, none⟩ = some (.int .i64 q)) ∧ ∀ j, j < l.length → w'.cell? ⟨g, j, none⟩ = some (.string (f j))) (first | exact ⟨⟨c0, c1⟩, call⟩ | exact ⟨⟨ka0, ka1⟩, kall⟩ | exact call | exact kall | go_keep) (first | (go_at_call 24; (with_reducible refine (hm.out _ HW.out).mono ?_); rintro e wa ⟨rfl, va⟩; have ka0 := va.c0; have ka1 := va.c1; have kall := HF.out _ va))
      go_wp2_with fail
      go_roundw
      case rel => exact ⟨k + 1, by omega, by omega, by go_num, va⟩
      case measure => simp [intOf]; omega
    · obtain rfl : k = l.length := by omega
      go_wp2_with fail
      refine (text_any _ _ _ _ _ _ HV.out.tp).mono ?_
      rintro e w3 ⟨s, hs, rfl, hk, tpn⟩
      replace HV := Lib.hid (HV.out.tock hk tpn)
      clear hk tpn c0 c1
      go_wp2_with fail
      go_cut [7] (fun s7 wx => ∃ (H2 : Nat) (b2 : Option Addr) (c2 : Nat) (x : ByteArray), s7 = .pointer (some ⟨H2, 0, none⟩) ∧ x.size ≤ 1000 ∧ Hid (WIv w w.heap.size a len cap H (some ⟨g, 0, none⟩) c l q wx) ∧ Hid (WIv w w.heap.size a len cap H2 b2 c2 (l ++ [x]) q wx))
      case first =>
        have c0 := HV.out.c0; have c1 := HV.out.c1
        have HW := Lib.hid (HV.out.below (Below.refl _ _).drew)
        have TX : Hid (∀ W, WIv w w.heap.size a len cap H (some ⟨g, 0, none⟩) c l q W → Calls Try.prog 8 #[.pointer (some ⟨w.heap.size, 0, none⟩)] W fun e w' => ∃ x : ByteArray, x.size ≤ 1000 ∧ e = .returned (.string x) ∧ WIv w w.heap.size a len cap H (some ⟨g, 0, none⟩) c l q w' ∧ (∀ b o, b ≠ w.heap.size → b < W.heap.size → w'.cell? ⟨b, o, none⟩ = W.cell? ⟨b, o, none⟩) ∧ (∀ b o, b ≠ w.heap.size → b < W.heap.size → w'.frozen? ⟨b, o, none⟩ = W.frozen? ⟨b, o, none⟩) ∧ (∀ b, b < W.heap.size → b < w'.heap.size)) := fun W hW =>
          (text_any _ _ _ _ _ _ hW.tp).mono fun e w' ⟨x, hx, he, hk, tpn⟩ => ⟨x, hx, he, hW.tock hk tpn, fun _ _ h1 h2 => hk.cell h1 h2, fun _ _ h1 h2 => hk.frozen h1 h2, fun _ h => Nat.lt_of_lt_of_le h hk.size⟩
        have CH : Hid (∀ (s : ByteArray) W, WIv w w.heap.size a len cap H (some ⟨g, 0, none⟩) c l q W → Calls Try.prog 27 #[.agg #[.slice (some ⟨g, 0, none⟩) l.length c, .int .i64 q], .string s] W fun e w' => ∃ b2 c2, e = .returned (.agg #[.slice b2 (l.length + 1) c2, .int .i64 q]) ∧ StrRow W.heap.size b2 c2 (l ++ [s]) w' ∧ WIv w w.heap.size a len cap H (some ⟨g, 0, none⟩) c l q w' ∧ (∀ b o, b < W.heap.size → w'.cell? ⟨b, o, none⟩ = W.cell? ⟨b, o, none⟩) ∧ (∀ b o, b < W.heap.size → w'.frozen? ⟨b, o, none⟩ = W.frozen? ⟨b, o, none⟩) ∧ (∀ b, b < W.heap.size → b < w'.heap.size)) := fun s W hW =>
          (change_any _ _ l c q s W hW.row (by omega)).mono fun e w' ⟨b2, c2, he, hr, hb⟩ => ⟨b2, c2, he, hr, hW.below hb, (bcell hb).1, (bcell hb).2, fun _ h => Nat.lt_of_lt_of_le h hb.size⟩
        have n1 : w3.heap.size ≠ w.heap.size := by have := HV.out.tp.hi; omega
        have n2 : w3.heap.size ≠ H := by have := HV.out.hi; omega
        have n3 : H ≠ w3.heap.size := by have := HV.out.hi; omega
        have n4 : H < w3.heap.size := HV.out.hi
        have n5 : H ≠ w.heap.size := by have := HV.out.lo; omega
        go_region_held3 (fun w' => w'.cell? ⟨H, 0, none⟩ = some (.slice (some ⟨g, 0, none⟩) l.length c) ∧ w'.cell? ⟨H, 1, none⟩ = some (.int .i64 q)) (go_keep) (first | (go_at_call 8; refine (TX.out _ ?_).mono ?_; (first | exact HW.out | exact HW.out.below ((Below.refl _ _).alloc (Nat.le_refl _) _)); rintro e wa ⟨x, hx, rfl, va, hca, hfa, hsa⟩; have ka0 := va.c0; have ka1 := va.c1; have m1 : wa.heap.size ≠ w.heap.size := (by have := va.tp.hi; omega); have m2 : wa.heap.size ≠ H := (by have := va.hi; omega); have m3 : H ≠ wa.heap.size := (by have := va.hi; omega); have m4 : H < wa.heap.size := va.hi) | (go_at_call 27; refine (CH.out x _ ?_).mono ?_; (first | exact va | exact va.below ((Below.refl _ _).alloc (Nat.le_refl _) _)); rintro e wb ⟨b2, c2, rfl, hr, vb, hcb, hfb, hsb⟩; have kb0 := vb.c0; have kb1 := vb.c1; have o1 : wb.heap.size ≠ w.heap.size := (by have := vb.tp.hi; omega); have o2 : wb.heap.size ≠ H := (by have := vb.hi; omega); have o3 : H ≠ wb.heap.size := (by have := vb.hi; omega); have o4 : H < wb.heap.size := vb.hi))
        all_goals
          have hxl : (l ++ [x]).length = l.length + 1 := by simp
          have w9 := va.tp.hi
        · have hN := vb.new (l2 := l ++ [x]) q (hr.mono (show w.heap.size + 1 ≤ _ by omega))
          rw [hxl] at hN
          go_wp2_with fail
          go_meet
          exact ⟨_, b2, c2, x, rfl, hx, hN.1, hN.2⟩
        · have hN := vb.two (H2 := wa.heap.size) (b2 := b2) (c2 := c2) (l2 := l ++ [x]) (u0 := .slice none 0 0) (u1 := .int .i64 0) q va.tp.hi (hsb _ (by simp)) m2 (va.row.ne_hi (Nat.le_refl _)) (by rw [hcb _ _ (by simp)]; simp) (by rw [hcb _ _ (by simp)]; simp) (by rw [hfb _ _ (by simp)]; simp) (by rw [hfb _ _ (by simp)]; simp) (hr.mono (by simp; omega)) (hr.ne_lo (by simp))
          rw [hxl] at hN
          go_wp2_with fail
          go_meet
          exact ⟨_, b2, c2, x, rfl, hx, hN.1, hN.2⟩
        · have hN := vb.two (H2 := w3.heap.size) (b2 := b2) (c2 := c2) (l2 := l ++ [x]) (u0 := .slice none 0 0) (u1 := .int .i64 0) q HV.out.tp.hi (hsb _ (hsa _ (by simp))) n2 (HV.out.row.ne_hi (Nat.le_refl _)) (by rw [hcb _ _ (hsa _ (by simp)), hca _ _ n1 (by simp)]; simp) (by rw [hcb _ _ (hsa _ (by simp)), hca _ _ n1 (by simp)]; simp) (by rw [hfb _ _ (hsa _ (by simp)), hfa _ _ n1 (by simp)]; simp) (by rw [hfb _ _ (hsa _ (by simp)), hfa _ _ n1 (by simp)]; simp) (hr.mono (by omega)) (hr.ne_lo (hsa _ (by simp)))
          rw [hxl] at hN
          go_wp2_with fail
          go_meet
          exact ⟨_, b2, c2, x, rfl, hx, hN.1, hN.2⟩
      case rest =>
        clear HV
        obtain ⟨H2, b2, c2, x, rfl, hx, HV, HV2⟩ := hcut
        go_wp2_with fail
        go_cut [8] (fun s8 wx => ∃ (H3 : Nat) (b3 : Option Addr) (c3 : Nat) (p : Nat), s8 = .pointer (some ⟨H3, 0, none⟩) ∧ q ≤ p ∧ p < l.length ∧ Hid (WIv w w.heap.size a len cap H (some ⟨g, 0, none⟩) c l q wx) ∧ Hid (WIv w w.heap.size a len cap H2 b2 c2 (l ++ [x]) q wx) ∧ Hid (WIv w w.heap.size a len cap H3 b3 c3 l p wx))
        case first =>
          have c0 := HV.out.c0; have c1 := HV.out.c1
          have HW := Lib.hid (HV.out.below (Below.refl _ _).drew)
          have HW2 := Lib.hid (HV2.out.below (Below.refl _ _).drew)
          have NX : Hid (∀ W, WIv w w.heap.size a len cap H (some ⟨g, 0, none⟩) c l q W → WIv w w.heap.size a len cap H2 b2 c2 (l ++ [x]) q W → Calls Try.prog 10 #[.pointer (some ⟨w.heap.size, 0, none⟩), .int .i64 l.length] W fun e w' => ∃ m : Int, e = .returned (.int .i64 m) ∧ WIv w w.heap.size a len cap H (some ⟨g, 0, none⟩) c l q w' ∧ WIv w w.heap.size a len cap H2 b2 c2 (l ++ [x]) q w' ∧ (∀ b o, b ≠ w.heap.size → b < W.heap.size → w'.cell? ⟨b, o, none⟩ = W.cell? ⟨b, o, none⟩) ∧ (∀ b o, b ≠ w.heap.size → b < W.heap.size → w'.frozen? ⟨b, o, none⟩ = W.frozen? ⟨b, o, none⟩) ∧ (∀ b, b < W.heap.size → b < w'.heap.size)) := fun W hW hW2 =>
            (next_tp (l.length : Int) _ _ _ _ _ _ (by omega) (by omega) hW.tp).mono fun e w' ⟨m, _, _, he, hk, tpn⟩ => ⟨m, he, hW.tock hk.tock tpn, hW2.tock hk.tock tpn, fun _ _ h1 h2 => hk.tock.cell h1 h2, fun _ _ h1 h2 => hk.tock.frozen h1 h2, fun _ h => Nat.lt_of_lt_of_le h hk.tock.size⟩
          have SY : Hid (∀ (m : Int) W, WIv w w.heap.size a len cap H (some ⟨g, 0, none⟩) c l q W → WIv w w.heap.size a len cap H2 b2 c2 (l ++ [x]) q W → Calls Try.prog 29 #[.agg #[.slice (some ⟨g, 0, none⟩) l.length c, .int .i64 q], .int .i64 m] W fun e w' => ∃ (b3 : Option Addr) (c3 p : Nat), q ≤ p ∧ p < l.length ∧ e = .returned (.agg #[.slice b3 l.length c3, .int .i64 p]) ∧ StrRow W.heap.size b3 c3 l w' ∧ WIv w w.heap.size a len cap H (some ⟨g, 0, none⟩) c l q w' ∧ WIv w w.heap.size a len cap H2 b2 c2 (l ++ [x]) q w' ∧ (∀ b o, b < W.heap.size → w'.cell? ⟨b, o, none⟩ = W.cell? ⟨b, o, none⟩) ∧ (∀ b o, b < W.heap.size → w'.frozen? ⟨b, o, none⟩ = W.frozen? ⟨b, o, none⟩) ∧ (∀ b, b < W.heap.size → b < w'.heap.size)) := fun m W hW hW2 => by
            obtain ⟨p, hp, h1, h2⟩ := syncV_nat (n := l.length) (q := q) (t := m) (by omega)
            refine (synced_any _ _ l c q m W hW.row (by omega)).mono ?_
            rintro e w' ⟨b3, c3, rfl, hr, hb⟩
            exact ⟨b3, c3, p, h1, h2, by rw [hp], hr, hW.below hb, hW2.below hb, (bcell hb).1, (bcell hb).2, fun _ h => Nat.lt_of_lt_of_le h hb.size⟩
          have n1 : wc.heap.size ≠ w.heap.size := by have := HV.out.tp.hi; omega
          have n2 : wc.heap.size ≠ H := by have := HV.out.hi; omega
          have n3 : H ≠ wc.heap.size := by have := HV.out.hi; omega
          have n4 : H < wc.heap.size := HV.out.hi
          have n5 : H ≠ w.heap.size := by have := HV.out.lo; omega
          have n6 : wc.heap.size ≠ H2 := by have := HV2.out.hi; omega
          go_region_held3 (fun w' => w'.cell? ⟨H, 0, none⟩ = some (.slice (some ⟨g, 0, none⟩) l.length c) ∧ w'.cell? ⟨H, 1, none⟩ = some (.int .i64 q)) (go_keep) (first | (go_at_call 10; refine (NX.out _ ?_ ?_).mono ?_; (first | exact HW.out | exact HW.out.below ((Below.refl _ _).alloc (Nat.le_refl _) _)); (first | exact HW2.out | exact HW2.out.below ((Below.refl _ _).alloc (Nat.le_refl _) _)); rintro e wa ⟨m, rfl, va, va2, hca, hfa, hsa⟩; have ka0 := va.c0; have ka1 := va.c1; have m1 : wa.heap.size ≠ w.heap.size := (by have := va.tp.hi; omega); have m2 : wa.heap.size ≠ H := (by have := va.hi; omega); have m3 : H ≠ wa.heap.size := (by have := va.hi; omega); have m4 : H < wa.heap.size := va.hi; have m6 : wa.heap.size ≠ H2 := (by have := va2.hi; omega)) | (go_at_call 29; refine (SY.out m _ ?_ ?_).mono ?_; (first | exact va | exact va.below ((Below.refl _ _).alloc (Nat.le_refl _) _)); (first | exact va2 | exact va2.below ((Below.refl _ _).alloc (Nat.le_refl _) _)); rintro e wb ⟨b3, c3, p, hp1, hp2, rfl, hr, vb, vb2, hcb, hfb, hsb⟩; have kb0 := vb.c0; have kb1 := vb.c1; have o1 : wb.heap.size ≠ w.heap.size := (by have := vb.tp.hi; omega); have o2 : wb.heap.size ≠ H := (by have := vb.hi; omega); have o3 : H ≠ wb.heap.size := (by have := vb.hi; omega); have o4 : H < wb.heap.size := vb.hi))
          all_goals
            have w9 := va.tp.hi
          · have hN := vb.new (l2 := l) p (hr.mono (show w.heap.size + 1 ≤ _ by omega))
            have hN2 := vb2.new (l2 := l) p (hr.mono (show w.heap.size + 1 ≤ _ by omega))
            go_wp2_with fail
            go_meet
            exact ⟨_, b3, c3, p, rfl, hp1, hp2, hN.1, hN2.1, hN.2⟩
          · have hN := vb.two (H2 := wa.heap.size) (b2 := b3) (c2 := c3) (l2 := l) (u0 := .slice none 0 0) (u1 := .int .i64 0) p va.tp.hi (hsb _ (by simp)) m2 (va.row.ne_hi (Nat.le_refl _)) (by rw [hcb _ _ (by simp)]; simp) (by rw [hcb _ _ (by simp)]; simp) (by rw [hfb _ _ (by simp)]; simp) (by rw [hfb _ _ (by simp)]; simp) (hr.mono (by simp; omega)) (hr.ne_lo (by simp))
            have hN2 := vb2.two (H2 := wa.heap.size) (b2 := b3) (c2 := c3) (l2 := l) (u0 := .slice none 0 0) (u1 := .int .i64 0) p va.tp.hi (hsb _ (by simp)) m6 (va2.row.ne_hi (Nat.le_refl _)) (by rw [hcb _ _ (by simp)]; simp) (by rw [hcb _ _ (by simp)]; simp) (by rw [hfb _ _ (by simp)]; simp) (by rw [hfb _ _ (by simp)]; simp) (hr.mono (by simp; omega)) (hr.ne_lo (by simp))
            go_wp2_with fail
            go_meet
            exact ⟨_, b3, c3, p, rfl, hp1, hp2, hN.1, hN2.1, hN.2⟩
          · have hN := vb.two (H2 := wc.heap.size) (b2 := b3) (c2 := c3) (l2 := l) (u0 := .slice none 0 0) (u1 := .int .i64 0) p HV.out.tp.hi (hsb _ (hsa _ (by simp))) n2 (HV.out.row.ne_hi (Nat.le_refl _)) (by rw [hcb _ _ (hsa _ (by simp)), hca _ _ n1 (by simp)]; simp) (by rw [hcb _ _ (hsa _ (by simp)), hca _ _ n1 (by simp)]; simp) (by rw [hfb _ _ (hsa _ (by simp)), hfa _ _ n1 (by simp)]; simp) (by rw [hfb _ _ (hsa _ (by simp)), hfa _ _ n1 (by simp)]; simp) (hr.mono (by omega)) (hr.ne_lo (hsa _ (by simp)))
            have hN2 := vb2.two (H2 := wc.heap.size) (b2 := b3) (c2 := c3) (l2 := l) (u0 := .slice none 0 0) (u1 := .int .i64 0) p HV.out.tp.hi (hsb _ (hsa _ (by simp))) n6 (HV2.out.row.ne_hi (Nat.le_refl _)) (by rw [hcb _ _ (hsa _ (by simp)), hca _ _ n1 (by simp)]; simp) (by rw [hcb _ _ (hsa _ (by simp)), hca _ _ n1 (by simp)]; simp) (by rw [hfb _ _ (hsa _ (by simp)), hfa _ _ n1 (by simp)]; simp) (by rw [hfb _ _ (hsa _ (by simp)), hfa _ _ n1 (by simp)]; simp) (hr.mono (by omega)) (hr.ne_lo (hsa _ (by simp)))
            go_wp2_with fail
            go_meet
            exact ⟨_, b3, c3, p, rfl, hp1, hp2, hN.1, hN2.1, hN.2⟩
        case rest =>
          clear HV HV2
          obtain ⟨H3, b3, c3, p, rfl, hp1, hp2, HV, HV2, HV3⟩ := hcut
          have hxl : (l ++ [x]).length = l.length + 1 := by simp
          have c0 := HV.out.c0; have c1 := HV.out.c1
          have d0 := HV2.out.c0; have d1 := HV2.out.c1
          have e0 := HV3.out.c0; have e1 := HV3.out.c1
          rw [hxl] at d0
          have M1 : Hid (∀ W, WIv w w.heap.size a len cap H (some ⟨g, 0, none⟩) c l q W → Calls Try.prog 24 #[.agg #[.slice (some ⟨g, 0, none⟩) l.length c, .int .i64 q], .string s] W (RetW (.bool (mayV l q s)) W)) := fun W hW => may_any _ _ l c q s W hW.row (by omega) (fun x hx => by have := SZ.out x hx; omega) (by omega)
          have M2 : Hid (∀ W, WIv w w.heap.size a len cap H2 b2 c2 (l ++ [x]) q W → Calls Try.prog 24 #[.agg #[.slice b2 (l.length + 1) c2, .int .i64 q], .string s] W (RetW (.bool (mayV (l ++ [x]) q s)) W)) := fun W hW => by
            have := may_any _ _ (l ++ [x]) c2 q s W hW.row (by rw [hxl]; omega) (fun y hy => by
              rcases List.mem_append.1 hy with hy | hy
              · have := SZ.out y hy; omega
              · rw [List.mem_singleton.1 hy]; omega) (by omega)
            rw [hxl] at this
            exact this
          have M3 : Hid (∀ W, WIv w w.heap.size a len cap H3 b3 c3 l p W → Calls Try.prog 24 #[.agg #[.slice b3 l.length c3, .int .i64 p], .string s] W (RetW (.bool (mayV l p s)) W)) := fun W hW => may_any _ _ l c3 p s W hW.row (by omega) (fun x hx => by have := SZ.out x hx; omega) (by omega)
          have I1 : Hid (mayV l q s = true → mayV (l ++ [x]) q s = true) := fun h => may_more (by omega) h
          have I2 : Hid (mayV l p s = true → mayV l q s = true) := fun h => may_later hp1 hp2 h
          generalize mayV l q s = r1 at *
          generalize mayV (l ++ [x]) q s = r2 at *
          generalize mayV l p s = r3 at *
          clear HM HF hcl
          go_wp2_with fail
          cases r1 with
          | true =>
            obtain rfl : r2 = true := I1.out rfl
            refine (M1.out _ HV.out).mono ?_; rintro e y1 ⟨rfl, hb⟩
            replace HV := Lib.hid (HV.out.below hb); replace HV2 := Lib.hid (HV2.out.below hb); replace HV3 := Lib.hid (HV3.out.below hb)
            clear hb c0 c1 d0 d1 e0 e1
            have c0 := HV.out.c0; have c1 := HV.out.c1
            have d0 := HV2.out.c0; have d1 := HV2.out.c1
            have e0 := HV3.out.c0; have e1 := HV3.out.c1
            rw [hxl] at d0
            go_wp2_with fail
            refine (M2.out _ HV2.out).mono ?_; rintro e y2 ⟨rfl, hb⟩
            replace HV := Lib.hid (HV.out.below hb); replace HV2 := Lib.hid (HV2.out.below hb); replace HV3 := Lib.hid (HV3.out.below hb)
            clear hb c0 c1 d0 d1 e0 e1
            have c0 := HV.out.c0; have c1 := HV.out.c1
            have d0 := HV2.out.c0; have d1 := HV2.out.c1
            have e0 := HV3.out.c0; have e1 := HV3.out.c1
            rw [hxl] at d0
            go_wp2_with fail
            cases r3 with
            | true =>
              refine (M3.out _ HV3.out).mono ?_; rintro e y3 ⟨rfl, hb⟩
              replace HV := Lib.hid (HV.out.below hb); replace HV2 := Lib.hid (HV2.out.below hb); replace HV3 := Lib.hid (HV3.out.below hb)
              clear hb c0 c1 d0 d1 e0 e1
              have c0 := HV.out.c0; have c1 := HV.out.c1
              have d0 := HV2.out.c0; have d1 := HV2.out.c1
              have e0 := HV3.out.c0; have e1 := HV3.out.c1
              rw [hxl] at d0
              go_wp2_with fail
              refine (M1.out _ HV.out).mono ?_; rintro e y4 ⟨rfl, hb⟩
              replace HV := Lib.hid (HV.out.below hb); replace HV2 := Lib.hid (HV2.out.below hb); replace HV3 := Lib.hid (HV3.out.below hb)
              clear hb c0 c1 d0 d1 e0 e1
              have c0 := HV.out.c0; have c1 := HV.out.c1
              have d0 := HV2.out.c0; have d1 := HV2.out.c1
              have e0 := HV3.out.c0; have e1 := HV3.out.c1
              rw [hxl] at d0
              go_wp2_with fail
              refine (awake_any _).mono ?_; rintro e z ⟨rfl, hb⟩
              go_wp2_with fail
              go_ret
              exact RetW.mk rfl (HV.out.below hb).tp.bel
            | false =>
              refine (M3.out _ HV3.out).mono ?_; rintro e y3 ⟨rfl, hb⟩
              replace HV := Lib.hid (HV.out.below hb); replace HV2 := Lib.hid (HV2.out.below hb); replace HV3 := Lib.hid (HV3.out.below hb)
              clear hb c0 c1 d0 d1 e0 e1
              have c0 := HV.out.c0; have c1 := HV.out.c1
              have d0 := HV2.out.c0; have d1 := HV2.out.c1
              have e0 := HV3.out.c0; have e1 := HV3.out.c1
              rw [hxl] at d0
              go_wp2_with fail
              refine (awake_any _).mono ?_; rintro e z ⟨rfl, hb⟩
              go_wp2_with fail
              go_ret
              exact RetW.mk rfl (HV.out.below hb).tp.bel
          | false =>
            have h3 : r3 = false := by
              cases r3 with
              | true => exact absurd (I2.out rfl) (by simp)
              | false => rfl
            subst h3
            refine (M1.out _ HV.out).mono ?_; rintro e y1 ⟨rfl, hb⟩
            replace HV := Lib.hid (HV.out.below hb); replace HV2 := Lib.hid (HV2.out.below hb); replace HV3 := Lib.hid (HV3.out.below hb)
            clear hb c0 c1 d0 d1 e0 e1
            have c0 := HV.out.c0; have c1 := HV.out.c1
            have d0 := HV2.out.c0; have d1 := HV2.out.c1
            have e0 := HV3.out.c0; have e1 := HV3.out.c1
            rw [hxl] at d0
            go_wp2_with fail
            refine (M3.out _ HV3.out).mono ?_; rintro e y2 ⟨rfl, hb⟩
            replace HV := Lib.hid (HV.out.below hb); replace HV2 := Lib.hid (HV2.out.below hb); replace HV3 := Lib.hid (HV3.out.below hb)
            clear hb c0 c1 d0 d1 e0 e1
            have c0 := HV.out.c0; have c1 := HV.out.c1
            have d0 := HV2.out.c0; have d1 := HV2.out.c1
            have e0 := HV3.out.c0; have e1 := HV3.out.c1
            rw [hxl] at d0
            go_wp2_with fail
            refine (awake_any _).mono ?_; rintro e z ⟨rfl, hb⟩
            go_wp2_with fail
            go_ret
            exact RetW.mk rfl (HV.out.below hb).tp.bel
end Go.Proofs.Ytebdnnfaghhpkaa
