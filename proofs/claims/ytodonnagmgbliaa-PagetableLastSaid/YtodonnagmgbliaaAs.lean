/- Lists of entries drawn from a tape. -/
import Derived.Test.YtodonnagmgbliaaSm
namespace Go.Proofs.Ytodonnagmgbliaa
open Go.ChangeShapes Go.WideShapes Go.ChangeAt Go.RowKit

theorem tape_start (w : World) (a : Option Addr) (len cap : Nat) (ha : ArgRow w a len) (hl : len ≤ maxLen) : TP w w.heap.size a len cap (w.alloc (.cells #[.slice a len cap, .int .i64 0] 25)) :=
  ⟨0, ha, Nat.le_refl _, by simp, (Below.refl _ _).alloc (Nat.le_refl _) _, by simp, by simp, by simp, Nat.zero_le _, hl⟩
/-- block A keeps an entry while only block t changes -/
theorem Tick.blk {t A : Nat} {w w' : World} {a : Ar} (h : Tick t w w') (hne : A ≠ t) (hb : Blk w A a) : Blk w' A a :=
  ⟨by rw [h.size]; exact hb.hi, by rw [h.cell hne]; exact hb.c0, by rw [h.cell hne]; exact hb.c1, by rw [h.cell hne]; exact hb.c2, by rw [h.cell hne]; exact hb.c3, by rw [h.cell hne]; exact hb.c4, fun i hi => by rw [h.frozen hne]; exact hb.f i hi⟩
theorem ARow.blk {B cap : Nat} {b : Option Addr} {l : List Ar} {w : World} (h : ARow B b cap l w) {g : Nat} (hg : b = some ⟨g, 0, none⟩) : B ≤ g ∧ g < w.heap.size := by
  rcases h with ⟨h, _⟩ | ⟨g', h1, h2, h3, _⟩
  · rw [h] at hg; cases hg
  · rw [h1] at hg; cases hg; exact ⟨h2, h3⟩
set_option maxHeartbeats 4000000 in
theorem ptes_any (w0 w : World) (t : Nat) (a : Option Addr) (len cap : Nat) (h : TP w0 t a len cap w) :
    Calls Try.prog 28 #[.pointer (some ⟨t, 0, none⟩)] w fun e w' => ∃ b c l, e = .returned (.slice b (List.length l) c) ∧ checkV l = true ∧ l.length ≤ 8 ∧ ARow w.heap.size b c l w' ∧ Tock t w w' ∧ TP w0 t a len cap w' := by
  have HT := Lib.hid h
  have hlt := h.hi
  have HN : Hid (∀ n W, 1 ≤ n → n ≤ 1000000 → TP w0 t a len cap W → Calls Try.prog 8 #[.pointer (some ⟨t, 0, none⟩), .int .i64 n] W fun e w' => ∃ r : Int, 0 ≤ r ∧ r < n ∧ e = .returned (.int .i64 r) ∧ Tick t W w' ∧ TP w0 t a len cap w') := fun n W h1 h2 h3 => next_tp n w0 W t a len cap h1 h2 h3
  clear h
  go_enter Try.func28, Try.ntmps28
  go_wp2_with fail
  refine (HN.out 9 _ (by omega) (by omega) HT.out).mono ?_; rintro e w1 ⟨r, hr0, hr1, rfl, htk, htp⟩
  replace HT := Lib.hid htp
  have HK := Lib.hid htk.tock
  clear htp htk
  obtain ⟨n0, rfl⟩ := Int.eq_ofNat_of_zero_le hr0
  go_wp2_with fail
  go_loopw [3, 4] (fun v3 v4 wr => ∃ (n : Nat) (b : Option Addr) (c : Nat) (l : List Ar), v4 = .int .i64 n ∧ v3 = .slice b l.length c ∧ l.length + n ≤ 8 ∧ Hid (checkV l = true) ∧ Hid (ARow w.heap.size b c l wr) ∧ Hid (Tock t w wr) ∧ Hid (TP w0 t a len cap wr)) (fun _ v4 _ => (intOf v4).toNat)
  case atStart => exact ⟨n0, none, 0, [], rfl, rfl, by show 0 + n0 ≤ 8; omega, (by decide : checkV [] = true), Or.inl ⟨rfl, rfl, rfl⟩, HK, HT⟩
  case round =>
    clear HT HK
    obtain ⟨n, b, c, l, rfl, rfl, hln, HC, HR, HK, HT⟩ := hrel
    by_cases hn : 0 < n
    · have hn' : (0 : Int) < (n : Int) := by omega
      have hsz := HK.out.size
      go_wp2_with fail
      refine (HN.out 3 _ (by omega) (by omega) HT.out).mono ?_; rintro e w1 ⟨r1, hr10, hr11, rfl, htk, htp⟩
      replace HT := Lib.hid htp
      replace HR := Lib.hid (HR.out.tock hlt htk.tock)
      replace HK := Lib.hid (HK.out.trans htk.tock)
      clear htk htp
      go_wp2_with fail
      refine (HN.out 6 _ (by omega) (by omega) HT.out).mono ?_; rintro e w2 ⟨r2, hr20, hr21, rfl, htk, htp⟩
      replace HT := Lib.hid htp
      replace HR := Lib.hid (HR.out.tock hlt htk.tock)
      replace HK := Lib.hid (HK.out.trans htk.tock)
      clear htk htp
      go_wp2_with fail
      refine (HN.out 4 _ (by omega) (by omega) HT.out).mono ?_; rintro e w3 ⟨r3, hr30, hr31, rfl, htk, htp⟩
      replace HT := Lib.hid htp
      replace HR := Lib.hid (HR.out.tock hlt htk.tock)
      replace HK := Lib.hid (HK.out.trans htk.tock)
      clear htk htp
      go_wp2_with fail
      refine (HN.out 2 _ (by omega) (by omega) HT.out).mono ?_; rintro e w4 ⟨r4, hr40, hr41, rfl, htk, htp⟩
      replace HT := Lib.hid htp
      replace HR := Lib.hid (HR.out.tock hlt htk.tock)
      replace HK := Lib.hid (HK.out.trans htk.tock)
      clear htk htp
      go_wp2_with fail
      refine (HN.out 2 _ (by omega) (by omega) HT.out).mono ?_; rintro e w5 ⟨r5, hr50, hr51, rfl, htk, htp⟩
      replace HT := Lib.hid htp
      replace HR := Lib.hid (HR.out.tock hlt htk.tock)
      replace HK := Lib.hid (HK.out.trans htk.tock)
      clear htk htp
      go_wp2_with fail
      have HE := Lib.hid (enterR_any w.heap.size b l c ⟨r1, r2, 1 + r3, r4 == 0, r5 == 0⟩ w5 HR.out (by omega) (by have := HK.out.size; omega))
      obtain ⟨hok, hle⟩ : checkV (enterL l ⟨r1, r2, 1 + r3, r4 == 0, r5 == 0⟩) = true ∧ (enterL l ⟨r1, r2, 1 + r3, r4 == 0, r5 == 0⟩).length ≤ l.length + 1 := ⟨check_enter HC.out, enterL_len⟩
      unfold arVal at HE
      simp only at HE
      have hsz := HK.out.size
      have htl : t < w5.heap.size := by omega
      refine HE.out.mono ?_
      clear HE
      generalize enterL l ⟨r1, r2, 1 + r3, r4 == 0, r5 == 0⟩ = l2 at *
      generalize enterE l ⟨r1, r2, 1 + r3, r4 == 0, r5 == 0⟩ = er at *
      rintro e w7 ⟨b2, c2, rfl, hr, hb⟩
      have HR2 : Hid (ARow w.heap.size b2 c2 l2 w7) := by
        rcases hr with hr | ⟨rfl, rfl, rfl⟩
        · exact hr.mono hsz
        · exact HR.out.below hb
      replace HT := Lib.hid (HT.out.below hb htl)
      replace HK := Lib.hid (HK.out.trans (Tock.ofBelow hb (Nat.le_refl _)))
      replace HC := Lib.hid hok
      have hwn : IntKind.i64.wrap ((n : Int) - 1) = (n : Int) - 1 := IntWalk.i64_in _ (by omega)
      clear hr hb hok HR
      go_wp2_with fail
      go_roundw
      case rel => exact ⟨n - 1, b2, c2, l2, by go_num, rfl, by omega, HC, HR2, HK, HT⟩
      case measure => simp [intOf]; omega
    · obtain rfl : n = 0 := by omega
      go_wp2_with fail
      go_ret
      exact ⟨b, c, l, rfl, HC.out, by omega, HR.out, HK.out, HT.out⟩
end Go.Proofs.Ytodonnagmgbliaa
