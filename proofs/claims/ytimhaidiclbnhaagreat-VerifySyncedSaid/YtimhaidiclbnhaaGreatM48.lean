/- Layer 46, shared texts of this seat, part 48. -/
import Derived.Test.YtimhaidiclbnhaaGreatM47
import Derived.Test.YtimhaidiclbnhaaGreatM00
/- Layer 46: the walk of VerifySynced. -/
set_option linter.unusedSimpArgs false
set_option linter.unusedVariables false
set_option maxRecDepth 100000
namespace Go.Proofs.YtimhaidiclbnhaaGreat.Ver
open Go.ChangeShapes Go.WideShapes Go.ChangeAt Go.RowKit
open Des (Dv De Dn DIn DBlk DAns Vi At RowOf ints DSz)
open Con (StrRow)

theorem tape_start (w : World) (a : Option Addr) (len cap : Nat) (ha : ArgRow w a len) (hl : len ≤ maxLen) : TP w w.heap.size a len cap (w.alloc (.cells #[.slice a len cap, .int .i64 0] 25)) :=
  ⟨0, ha, Nat.le_refl _, by simp, (Below.refl _ _).alloc (Nat.le_refl _) _, by simp, by simp, by simp, Nat.zero_le _, hl⟩
theorem sy_ops (sa sb : ByteArray) : ([awO, wrO sa, syO, wrO sb] : List Opr).flatMap Opr.cells = [.int .i64 1, .int .i64 0, .int .i64 0, .int .i64 3, .int .i64 0, .int .i64 0, .int .i64 0, .string ⟨#[]⟩, .bool false, .int .i64 4, .int .i64 0, .int .i64 0, .int .i64 0, .int .i64 0, .int .i64 0, .int .i64 0, .string sa, .bool false, .int .i64 8, .int .i64 0, .int .i64 0, .int .i64 0, .int .i64 0, .int .i64 0, .int .i64 0, .string ⟨#[]⟩, .bool false, .int .i64 4, .int .i64 0, .int .i64 0, .int .i64 0, .int .i64 0, .int .i64 0, .int .i64 0, .string sb, .bool false] := rfl
theorem scin_up {W W' : World} {v : Value} {l : List (List Opr)} (h : ScIn W.heap.size W v l) (hb : Below W.heap.size W W') : ScIn W'.heap.size W' v l := by
  obtain ⟨g, o, c2, h1, h2, h3, h4, h5⟩ := h.below hb
  exact ⟨g, o, c2, h1, Nat.lt_of_lt_of_le h2 hb.size, h3, h4, fun i hi => by
    obtain ⟨u, h6, g2, o3, c3, h7, h8, h9⟩ := h5 i hi
    exact ⟨u, h6, g2, o3, c3, h7, Nat.lt_of_lt_of_le h8 hb.size, h9⟩⟩
theorem sy_in {W : World} {qa : Option Addr} {gE : Nat} {sa sb : ByteArray} {er : Int} (ha : sa.size ≤ 9) (hb : sb.size ≤ 9) (hs : ScIn W.heap.size W (.slice qa 1 1) (syScr sa sb)) (hE : At W gE ((syEv sa sb er).flatMap Ev.cells)) :
    CIn W 1 (syScr sa sb) qa 1 none 0 [] (.slice (some ⟨gE, 0, none⟩) 4 4) (syEv sa sb er) := by
  refine ⟨hs, by omega, (by show 1 ≤ 1 ∧ 1 ≤ 8; omega), Or.inl ⟨rfl, rfl, rfl⟩, by simp, fun s h => (by cases h), ?_, ?_, (by show 4 ≤ 1000; omega), ?_⟩
  · refine ops_one _ fun o ho => ?_
    simp only [List.mem_cons, List.not_mem_nil, or_false] at ho
    rcases ho with rfl | rfl | rfl | rfl
    · decide
    · exact ⟨(by decide : (1 : Int) ≤ 4), (by decide : (4 : Int) ≤ 14), (by decide : (0 : Int) ≤ 1000000), (by show sa.size ≤ 1000; omega)⟩
    · decide
    · exact ⟨(by decide : (1 : Int) ≤ 4), (by decide : (4 : Int) ≤ 14), (by decide : (0 : Int) ≤ 1000000), (by show sb.size ≤ 1000; omega)⟩
  · exact ev_one _ 4 rfl hE.hi (by unfold maxLen; omega) (fun j u hu => by have := hE.r j u hu; rwa [Nat.zero_add] at this)
  · intro x hx
    simp only [syEv, List.mem_cons, List.not_mem_nil, or_false] at hx
    rcases hx with rfl | rfl | rfl | rfl <;> rfl
/-- a slice of so many -/
def LenP (W : World) (n : Nat) (e : Ending) (w' : World) : Prop := ∃ oa oc, e = .returned (.slice oa n oc) ∧ Below W.heap.size W w'
theorem own_any {B n : Nat} {W : World} {ov : Value} {xs : List Value} (h : W.ownsRow B 70 2 ov n xs) : ∃ oa oc, ov = .slice oa n oc := by
  rcases h.2 with ⟨h1, h2⟩ | ⟨g, cap, cur, h1, _⟩
  · obtain rfl : n = 0 := by omega
    exact ⟨_, _, h1⟩
  · exact ⟨_, _, h1⟩
theorem cra_len {W w' : World} {fl : List (Int × Int)} {e : Ending} (h : CraP W fl e w') : LenP W fl.length e w' := by
  obtain ⟨B, ov, rfl, _, hown, hb⟩ := h
  obtain ⟨oa, oc, rfl⟩ := own_any hown
  exact ⟨oa, oc, rfl, hb⟩
section
variable {W W' : World} {sa sb : ByteArray} {qa pa : Option Addr} {v : Value} {er : Int}
theorem sy_one (h : CIn W 1 (syScr sa sb) qa 1 none 0 [] v (syEv sa sb er)) (hb : Below W.heap.size W W') {g : Nat} {s : ByteArray} (hg : At W' g [.string s]) (hs : s.size ≤ 10000) (hc : syC sa sb er [s] = []) :
    Calls Tryz.prog 13 #[.agg (cfgC (.slice pa 1 1) (.slice qa 1 1)).toArray, .slice none 0 0, .slice (some ⟨g, 0, none⟩) 1 1, v] W' (LenP W' 0) := by
  have h1 := crash_any 1 pa 1 (syScr sa sb) qa 1 none 0 [] (some ⟨g, 0, none⟩) 1 [s] v (syEv sa sb er) W' (h.below hb) (Or.inr ⟨g, rfl, Nat.zero_le _, hg.hi, by simp, by unfold maxLen; omega, fun j hj => by
    obtain rfl : j = 0 := by simp at hj; exact hj
    exact hg.cell 0 _ rfl⟩) (by simp) (fun s' h' => by simp at h'; subst h'; exact hs)
  rw [show crashF 1 (begS (syScr sa sb) 1 []) (syEv sa sb er) [s] = [] from hc] at h1
  exact h1.mono fun e w' hh => cra_len hh
theorem sy_nil (h : CIn W 1 (syScr sa sb) qa 1 none 0 [] v (syEv sa sb er)) (hb : Below W.heap.size W W') {fl : List (Int × Int)} (hc : syC sa sb er [] = fl) :
    Calls Tryz.prog 13 #[.agg (cfgC (.slice pa 1 1) (.slice qa 1 1)).toArray, .slice none 0 0, .slice none 0 0, v] W' (LenP W' fl.length) := by
  have h1 := crash_any 1 pa 1 (syScr sa sb) qa 1 none 0 [] none 0 [] v (syEv sa sb er) W' (h.below hb) (Or.inl ⟨rfl, rfl, rfl⟩) (by simp) (fun s h => by cases h)
  rw [show crashF 1 (begS (syScr sa sb) 1 []) (syEv sa sb er) [] = fl from hc] at h1
  exact h1.mono fun e w' hh => cra_len hh
end
theorem arg_below {w w' : World} {a : Option Addr} {len : Nat} (h : ArgRow w a len) (hb : Below w.heap.size w w') : ArgRow w' a len := by
  obtain ⟨b, o, zs, h1, h2⟩ := h
  exact ⟨b, o, zs, h1, fun k hk => ⟨(h2 k hk).1, Nat.lt_of_lt_of_le (h2 k hk).2.1 hb.size, (hb.cell (p := ⟨b, o + k, none⟩) (h2 k hk).2.1).trans (h2 k hk).2.2⟩⟩
set_option maxHeartbeats 40000000 in
theorem synced_walk (a0 : Option Addr) (len0 cap0 : Nat) (a1 : Option Addr) (len1 cap1 : Nat) (W : World) (h0 : ArgRow W a0 len0) (l0 : len0 ≤ maxLen) (h1 : ArgRow W a1 len1) (l1 : len1 ≤ maxLen) :
    Calls Tryz.prog 6 #[.slice a0 len0 cap0, .slice a1 len1 cap1] W (RetW (.bool true) W) := by
  have HT := Lib.hid (tape_start W a1 len1 cap1 h1 l1)
  have HA0 := Lib.hid h0
  have HL0 := Lib.hid l0
  clear h0 h1 l1 l0
  go_enter Tryz.func6, Tryz.ntmps6
  go_wp2_with fail
  have tp0 := HT.out
  clear HT
  generalize W.alloc (.cells #[.slice a1 len1 cap1, .int .i64 0] 25) = w0 at *
  go_wp2_with fail
  refine (next_tp 9 _ _ _ _ _ _ (by omega) (by omega) tp0).mono ?_
  rintro e w1 ⟨k, ka, kb, rfl, hk, tpn⟩
  clear hk tp0
  have tp1 := tpn
  clear tpn
  obtain ⟨k, rfl⟩ := Int.eq_ofNat_of_zero_le ka
  go_wp2_with fail
  have hby := bytes_any (1 + k) _ _ _ _ _ _ (by omega) tp1
  rw [show ((1 + k : Nat) : Int) = 1 + (k : Int) from by omega] at hby
  refine hby.mono ?_
  rintro e w2 ⟨sa, hy, rfl, hk, tpn⟩
  clear hby
  clear hk tp1
  have tp2 := tpn
  clear tpn
  have sal : sa.size ≤ 9 := by omega
  have sap : 0 < sa.size := by omega
  clear hy ka kb
  go_wp2_with fail
  refine (next_tp 9 _ _ _ _ _ _ (by omega) (by omega) tp2).mono ?_
  rintro e w3 ⟨k, ka, kb, rfl, hk, tpn⟩
  clear hk tp2
  have tp3 := tpn
  clear tpn
  obtain ⟨k, rfl⟩ := Int.eq_ofNat_of_zero_le ka
  go_wp2_with fail
  have hby := bytes_any (1 + k) _ _ _ _ _ _ (by omega) tp3
  rw [show ((1 + k : Nat) : Int) = 1 + (k : Int) from by omega] at hby
  refine hby.mono ?_
  rintro e w4 ⟨sb, hy, rfl, hk, tpn⟩
  clear hby
  clear hk tp3
  have tp4 := tpn
  clear tpn
  have sbl : sb.size ≤ 9 := by omega
  have sbp : 0 < sb.size := by omega
  clear hy ka kb
  
  have HB4 : Hid (Below W.heap.size W w4) := Lib.hid tp4.bel
  clear tp4
  go_upto_region 3 with (fail)
  have HB4x := HB4
  go_cut [8] (fun s8 wx => ∃ K pa qa, s8 = .pointer (some ⟨K, 0, none⟩) ∧ Hid (At wx K (cfgC (.slice pa 1 1) (.slice qa 1 1))) ∧ Hid (ScIn wx.heap.size wx (.slice qa 1 1) (syScr sa sb)) ∧ Hid (Below w4.heap.size w4 wx))
  case first =>
    rename_i K0 h0 J0 K1 h1 h2
    clear h0 K0
    go_wp2_with (with_reducible refine Des.hold_store 44 rfl ?_)
    generalize hA : World.alloc w4 (Obj.cells #[.int .i64 0, .int .i64 0] 27) = wA at *
    have hsA : wA.heap.size = w4.heap.size + 1 := by rw [← hA]; exact Des.alloc_size _ _
    generalize hB : World.alloc wA (Obj.cells #[.int .i64 1, .int .i64 0, .int .i64 0, .int .i64 3, .int .i64 0, .int .i64 0, .int .i64 0, .string ⟨#[]⟩, .bool false, .int .i64 4, .int .i64 0, .int .i64 0, .int .i64 0, .int .i64 0, .int .i64 0, .int .i64 0, .string sa, .bool false, .int .i64 8, .int .i64 0, .int .i64 0, .int .i64 0, .int .i64 0, .int .i64 0, .int .i64 0, .string ⟨#[]⟩, .bool false, .int .i64 4, .int .i64 0, .int .i64 0, .int .i64 0, .int .i64 0, .int .i64 0, .int .i64 0, .string sb, .bool false] 66) = wB at *
    have hsB : wB.heap.size = w4.heap.size + 2 := by rw [← hB, Des.alloc_size, hsA]
    generalize hC : World.alloc wB (Obj.cells #[.slice (some ⟨w4.heap.size + 1, 0, none⟩) 4 4] 67) = wC at *
    have hsC : wC.heap.size = w4.heap.size + 3 := by rw [← hC, Des.alloc_size, hsB]
    generalize hD : World.alloc wC (Obj.cells #[.slice none 0 0, .slice none 0 0, .int .i64 0, .int .i64 0, .int .i64 0, .int .i64 0, .int .i64 0, .int .i64 0, .int .i64 0, .int .i64 0, .slice none 0 0, .slice none 0 0, .int .i64 0, .int .i64 0, .slice none 0 0, .slice none 0 0, .slice none 0 0, .int .i64 0, .int .i64 0, .slice none 0 0, .slice none 0 0] 44) = wD at *
    have HAt : At wD (w4.heap.size + 3) [.slice none 0 0, .slice none 0 0, .int .i64 0, .int .i64 0, .int .i64 0, .int .i64 0, .int .i64 0, .int .i64 0, .int .i64 0, .int .i64 0, .slice none 0 0, .slice none 0 0, .int .i64 0, .int .i64 0, .slice none 0 0, .slice none 0 0, .slice none 0 0, .int .i64 0, .int .i64 0, .slice none 0 0, .slice none 0 0] := by rw [← hD, ← hsC]; exact At.new wC _ 44
    have hbA : Below w4.heap.size w4 wA := by rw [← hA]; exact (Below.refl _ _).alloc (Nat.le_refl _) _
    have hbC : Below wB.heap.size wB wD := by rw [← hD, ← hC]; exact ((Below.refl _ _).alloc (Nat.le_refl _) _).alloc (by rw [Des.alloc_size]; omega) _
    have hbB : Below wA.heap.size wA wB := by rw [← hB]; exact (Below.refl _ _).alloc (Nat.le_refl _) _
    have hat1 : At wB (w4.heap.size + 1) [.int .i64 1, .int .i64 0, .int .i64 0, .int .i64 3, .int .i64 0, .int .i64 0, .int .i64 0, .string ⟨#[]⟩, .bool false, .int .i64 4, .int .i64 0, .int .i64 0, .int .i64 0, .int .i64 0, .int .i64 0, .int .i64 0, .string sa, .bool false, .int .i64 8, .int .i64 0, .int .i64 0, .int .i64 0, .int .i64 0, .int .i64 0, .int .i64 0, .string ⟨#[]⟩, .bool false, .int .i64 4, .int .i64 0, .int .i64 0, .int .i64 0, .int .i64 0, .int .i64 0, .int .i64 0, .string sb, .bool false] := by rw [← hB, ← hsA]; exact At.new wA _ 66
    have hat2 : At wC (w4.heap.size + 2) [.slice (some ⟨w4.heap.size + 1, 0, none⟩) 4 4] := by rw [← hC, ← hsB]; exact At.new wB _ 67
    have hbD : Below wC.heap.size wC wD := by rw [← hD]; exact (Below.refl _ _).alloc (Nat.le_refl _) _
    have hsD : wD.heap.size = w4.heap.size + 4 := by rw [← hD, Des.alloc_size, hsC]
    clear hA hB hC hD
    refine Des.store_ato 0 (cfgC (.slice (some ⟨w4.heap.size, 0, none⟩) 1 1) (.slice (some ⟨w4.heap.size + 2, 0, none⟩) 1 1)) HAt.t rfl size44 (by simp [cfgC, Value.oneCell']) rfl rfl rfl rfl ?_
    intro wE hwE
    have HwE := Lib.hid hwE
    clear hwE
    go_wp2_with fail
    go_meet
    have hwE := HwE.out
    have hbE : Below (w4.heap.size + 3) wD wE := by rw [hwE]; exact Des.below_cells (Nat.le_refl _) _ _ (Below.refl _ _)
    have hE1 : At wE (w4.heap.size + 3) (cfgC (.slice (some ⟨w4.heap.size, 0, none⟩) 1 1) (.slice (some ⟨w4.heap.size + 2, 0, none⟩) 1 1)) := by rw [hwE]; exact HAt.store _ rfl
    have hE2 : At wE (w4.heap.size + 1) [.int .i64 1, .int .i64 0, .int .i64 0, .int .i64 3, .int .i64 0, .int .i64 0, .int .i64 0, .string ⟨#[]⟩, .bool false, .int .i64 4, .int .i64 0, .int .i64 0, .int .i64 0, .int .i64 0, .int .i64 0, .int .i64 0, .string sa, .bool false, .int .i64 8, .int .i64 0, .int .i64 0, .int .i64 0, .int .i64 0, .int .i64 0, .int .i64 0, .string ⟨#[]⟩, .bool false, .int .i64 4, .int .i64 0, .int .i64 0, .int .i64 0, .int .i64 0, .int .i64 0, .int .i64 0, .string sb, .bool false] := (hat1.below hbC (by omega)).below hbE (by omega)
    have hE3 : At wE (w4.heap.size + 2) [.slice (some ⟨w4.heap.size + 1, 0, none⟩) 4 4] := (hat2.below hbD (by omega)).below hbE (by omega)
    have hsE : wE.heap.size = w4.heap.size + 4 := ((congrArg (fun w : World => w.heap.size) hwE).trans (Des.size_cells _ _ _ _)).trans hsD
    refine ⟨w4.heap.size + 3, some ⟨w4.heap.size, 0, none⟩, some ⟨w4.heap.size + 2, 0, none⟩, rfl, hE1, ?_, ?_⟩
    · exact sc_one [awO, wrO sa, syO, wrO sb] 4 rfl (hE3.cell 0 _ rfl) (by omega) (by omega) (by unfold maxLen; omega) (fun j u hu => by have := hE2.r j u (by rw [sy_ops] at hu; exact hu); rwa [Nat.zero_add] at this)
    · exact ((hbA.trans (hbB.mono (by omega))).trans (hbC.mono (by omega))).trans (hbE.mono (by omega))
  case rest =>
    obtain ⟨K, pa, qa, rfl, HC, HS, HB⟩ := hcut
    rename_i K0 h0
    refine h0 _ _ ?_
    clear h0 K0
    obtain ⟨w5, hw5⟩ : ∃ w5, w5 = wc := ⟨_, rfl⟩
    subst hw5
    have HBW : Hid (Below W.heap.size W w5) := Lib.hid (HB4.out.trans (HB.out.mono HB4.out.size))
    have HT := Lib.hid (tape_start w5 a0 len0 cap0 (arg_below HA0.out HBW.out) HL0.out)
    clear HB HB4 HB4x HA0 HL0
    go_wp2_with fail
    have tp0 := HT.out
    clear HT
    generalize World.alloc w5 (Obj.cells #[.slice a0 len0 cap0, .int .i64 0] 25) = w6 at *
    refine (next_tp 3 _ _ _ _ _ _ (by omega) (by omega) tp0).mono ?_
    rintro e w7 ⟨k3, ka, kb, rfl, hk, tp1⟩
    have HB7 : Hid (Below w5.heap.size w5 w7) := Lib.hid tp1.bel
    have HBW7 : Hid (Below W.heap.size W w7) := Lib.hid (HBW.out.trans (HB7.out.mono HBW.out.size))
    have HC7 := Lib.hid (HC.out.below HB7.out HC.out.hi)
    have HS7 : Hid (ScIn w7.heap.size w7 (.slice qa 1 1) (syScr sa sb)) := Lib.hid (scin_up HS.out HB7.out)
    clear hk tp0 tp1 HB7 HBW HC HS
    clear w6
    go_upto_if 57 with (fail)
    have HEV : Hid (At (World.alloc w7 (Obj.cells #[.int .i64 0, .int .i64 0, .int .i64 0, .int .i64 0, .int .i64 0, .int .i64 0, .int .i64 0, .int .i64 0, .string ⟨#[]⟩, .int .i64 0, .int .i64 0, .int .i64 1, .int .i64 0, .int .i64 0, .int .i64 1, .int .i64 0, .int .i64 (sa.size : Int), .string ⟨#[]⟩, .int .i64 0, .int .i64 0, .int .i64 2, .int .i64 0, .int .i64 0, .int .i64 2, .int .i64 0, .int .i64 0, .string ⟨#[]⟩, .int .i64 0, .int .i64 0, .int .i64 3, .int .i64 0, .int .i64 0, .int .i64 3, .int .i64 0, .int .i64 (sb.size : Int), .string ⟨#[]⟩] 64)) w7.heap.size [.int .i64 0, .int .i64 0, .int .i64 0, .int .i64 0, .int .i64 0, .int .i64 0, .int .i64 0, .int .i64 0, .string ⟨#[]⟩, .int .i64 0, .int .i64 0, .int .i64 1, .int .i64 0, .int .i64 0, .int .i64 1, .int .i64 0, .int .i64 (sa.size : Int), .string ⟨#[]⟩, .int .i64 0, .int .i64 0, .int .i64 2, .int .i64 0, .int .i64 0, .int .i64 2, .int .i64 0, .int .i64 0, .string ⟨#[]⟩, .int .i64 0, .int .i64 0, .int .i64 3, .int .i64 0, .int .i64 0, .int .i64 3, .int .i64 0, .int .i64 (sb.size : Int), .string ⟨#[]⟩]) := Lib.hid (At.new w7 _ 64)
    have HB8 : Hid (Below w7.heap.size w7 (World.alloc w7 (Obj.cells #[.int .i64 0, .int .i64 0, .int .i64 0, .int .i64 0, .int .i64 0, .int .i64 0, .int .i64 0, .int .i64 0, .string ⟨#[]⟩, .int .i64 0, .int .i64 0, .int .i64 1, .int .i64 0, .int .i64 0, .int .i64 1, .int .i64 0, .int .i64 (sa.size : Int), .string ⟨#[]⟩, .int .i64 0, .int .i64 0, .int .i64 2, .int .i64 0, .int .i64 0, .int .i64 2, .int .i64 0, .int .i64 0, .string ⟨#[]⟩, .int .i64 0, .int .i64 0, .int .i64 3, .int .i64 0, .int .i64 0, .int .i64 3, .int .i64 0, .int .i64 (sb.size : Int), .string ⟨#[]⟩] 64))) := Lib.hid ((Below.refl _ _).alloc (Nat.le_refl _) _)
    generalize World.alloc w7 (Obj.cells #[.int .i64 0, .int .i64 0, .int .i64 0, .int .i64 0, .int .i64 0, .int .i64 0, .int .i64 0, .int .i64 0, .string ⟨#[]⟩, .int .i64 0, .int .i64 0, .int .i64 1, .int .i64 0, .int .i64 0, .int .i64 1, .int .i64 0, .int .i64 (sa.size : Int), .string ⟨#[]⟩, .int .i64 0, .int .i64 0, .int .i64 2, .int .i64 0, .int .i64 0, .int .i64 2, .int .i64 0, .int .i64 0, .string ⟨#[]⟩, .int .i64 0, .int .i64 0, .int .i64 3, .int .i64 0, .int .i64 0, .int .i64 3, .int .i64 0, .int .i64 (sb.size : Int), .string ⟨#[]⟩] 64) = w8 at *
    generalize hgE : w7.heap.size = gE at *
    have e24 : w8.cell? ⟨gE, 24, none⟩ = some (.int .i64 0) := HEV.out.cell 24 _ rfl
    have f24 : w8.frozen? ⟨gE, 24, none⟩ = false := HEV.out.free 24 (Nat.lt_of_sub_pos (by exact Nat.succ_pos 11))
    have h24 := HEV.out.hi
    go_cut [10] (fun s10 wx => s10 = .bool (k3 == 0) ∧ Hid (At wx gE ((syEv sa sb (if k3 = 0 then 10 else 0)).flatMap Ev.cells)) ∧ Hid (Below gE w7 wx))
    case first =>
      by_cases x0 : k3 = 0
      · subst x0
        have HEV2 := Lib.hid (HEV.out.set 24 (.int .i64 10))
        have HB9 := Lib.hid (HB8.out.setCell (p := ⟨gE, 24, none⟩) (Nat.le_refl _) (.int .i64 10))
        generalize hw9 : w8.setCell ⟨gE, 24, none⟩ (.int .i64 10) = w9 at *
        have HW9 := Lib.hid hw9
        clear hw9
        go_wp2_with fail
        rw [HW9.out]
        go_meet
        exact ⟨rfl, HEV2, HB9⟩
      · have n0 : (k3 == 0) = false := by simpa using x0
        go_wp2_with fail
        go_meet
        rw [if_neg x0, n0]
        exact ⟨rfl, HEV, HB8⟩
    case rest =>
      obtain ⟨rfl, HE, HB9⟩ := hcut
      clear HEV HB8 e24 f24 h24
      rename_i K0 h0
      refine h0 _ _ ?_
      clear h0 K0
      obtain ⟨w9, hw9⟩ : ∃ w9, w9 = wc := ⟨_, rfl⟩
      subst hw9
      have HE9 : Hid ((if k3 = 0 then (10 : Int) else 0) = 0 ∨ (if k3 = 0 then (10 : Int) else 0) = 10) := Lib.hid (by by_cases x : k3 = 0 <;> simp [x])
      have HB79 : Hid (Below w7.heap.size w7 w9) := Lib.hid (by rw [hgE]; exact HB9.out)
      have HIN := Lib.hid (sy_in (er := if k3 = 0 then 10 else 0) sal sbl (scin_up (by rw [hgE]; exact HS7.out) HB79.out) HE.out)
      have HKC : Hid (At w9 K (cfgC (.slice pa 1 1) (.slice qa 1 1))) := Lib.hid (HC7.out.below HB79.out HC7.out.hi)
      have HBW9 : Hid (Below W.heap.size W w9) := Lib.hid (HBW7.out.trans (HB79.out.mono HBW7.out.size))
      have HN2 : Hid ((if (if k3 = 0 then (10 : Int) else 0) = 0 then [((-1 : Int), (5 : Int))] else []).length = if k3 = 0 then 0 else 1) := Lib.hid (by by_cases x : k3 = 0 <;> simp [x])
      have C1 : Hid (∀ W' g, Below w9.heap.size w9 W' → At W' g [.string sa] → Calls Tryz.prog 13 #[.agg (cfgC (.slice pa 1 1) (.slice qa 1 1)).toArray, .slice none 0 0, .slice (some ⟨g, 0, none⟩) 1 1, .slice (some ⟨gE, 0, none⟩) 4 4] W' (LenP W' 0)) := Lib.hid fun W' g hb hg => sy_one HIN.out hb hg (by omega) (sy_old ⟨sap, sal⟩ ⟨sbp, sbl⟩ HE9.out)
      have C2 : Hid (∀ W', Below w9.heap.size w9 W' → Calls Tryz.prog 13 #[.agg (cfgC (.slice pa 1 1) (.slice qa 1 1)).toArray, .slice none 0 0, .slice none 0 0, .slice (some ⟨gE, 0, none⟩) 4 4] W' (LenP W' (if k3 = 0 then 0 else 1))) := Lib.hid fun W' hb => by
        rw [← HN2.out]
        exact sy_nil HIN.out hb (sy_none ⟨sap, sal⟩ ⟨sbp, sbl⟩ HE9.out)
      have C3 : Hid (∀ W' g, Below w9.heap.size w9 W' → At W' g [.string (sa ++ sb)] → Calls Tryz.prog 13 #[.agg (cfgC (.slice pa 1 1) (.slice qa 1 1)).toArray, .slice none 0 0, .slice (some ⟨g, 0, none⟩) 1 1, .slice (some ⟨gE, 0, none⟩) 4 4] W' (LenP W' 0)) := Lib.hid fun W' g hb hg => sy_one HIN.out hb hg (by rw [ByteArray.size_append]; omega) (sy_both ⟨sap, sal⟩ ⟨sbp, sbl⟩ HE9.out)
      have C4 : Hid (∀ W' g, Below w9.heap.size w9 W' → At W' g [.string (sa ++ zeros sb.size)] → Calls Tryz.prog 13 #[.agg (cfgC (.slice pa 1 1) (.slice qa 1 1)).toArray, .slice none 0 0, .slice (some ⟨g, 0, none⟩) 1 1, .slice (some ⟨gE, 0, none⟩) 4 4] W' (LenP W' 0)) := Lib.hid fun W' g hb hg => sy_one HIN.out hb hg (by rw [ByteArray.size_append, size_zeros]; omega) (sy_part ⟨sap, sal⟩ ⟨sbp, sbl⟩ HE9.out (size_zeros _) (Con.bat_zeros _))
      obtain ⟨n2, hn2⟩ : ∃ n2 : Nat, n2 = if k3 = 0 then 0 else 1 := ⟨_, rfl⟩
      rw [← hn2] at C2
      have HNN := Lib.hid hn2
      clear hn2 HIN HE9 HN2 HE HB79 HB9 HBW7 HC7 HS7
      have hsz44 : (Tryz.prog.info? 44).map (·.size) = some (cfgC (.slice pa 1 1) (.slice qa 1 1)).length := size44
      generalize cfgC (.slice pa 1 1) (.slice qa 1 1) = cf at *
      clear hgE
      have hco : sa.size + sb.size ≤ 9223372036854775807 := by omega
      go_upto_region 9 with (fail)
      go_cut [12, 13, 14] (fun s12 s13 s14 wx => ∃ o1 c1 o2 c2 o3 c3, s12 = .slice o1 0 c1 ∧ s13 = .slice o2 n2 c2 ∧ s14 = .slice o3 0 c3 ∧ Hid (Below w9.heap.size w9 wx))
      case first =>
        rename_i K0 h0 J0 K1 h1 h2
        clear h0 K0
        have HX0 : Hid (Below w9.heap.size w9 w9.drew) := Lib.hid (Below.refl _ _).drew
        have HK0 := Lib.hid (Des.At.drew HKC.out)
        have hR0 : w9.drew.rangeAt K 0 cf := HK0.out.r
        refine wp_region_held_drew (S := fun w' => w'.rangeAt K 0 cf) (by kernel_rfl) (by (try dsimp only); assumption) (fun hHeld => ?_)
        generalize w9.drew = x0 at *
        refine wpAnyH_take (i := 0) (oi := { dst := some 62, op := Op.load 44 (Operand.tmp 8), type := 44, pos := "more.go:62", after := #[], guard := none }) (v := .agg cf.toArray) rfl (by kernel_rfl) (by kernel_rfl) (by kernel_rfl) (fun _ _ _ h => h) (yieldsIf_load_mid (by rfl) 44 _ rfl K 0 (by rfl) cf _ (fun w h => h) Tryz.underlying44 rfl hsz44) (by assumption) ?_
        try simp only [Act.put, List.setIfInBounds_toArray, List.set_cons_zero, List.set_cons_succ]
        refine wpAnyH_take (i := 1) (oi := { dst := some 63, op := Op.move (Operand.tmp 6), type := 9, pos := "more.go:62", after := #[], guard := none }) (v := ?_) rfl (by kernel_rfl) (by kernel_rfl) (by kernel_rfl) (fun _ _ _ h => h) (Or.inl ⟨by rfl, ?_⟩) (by assumption) ?_
        rotate_left
        focus ((intro w hSw; (try dsimp only at hSw); go_simp) <;> (try with_reducible rfl))
        try simp only [Act.put, List.setIfInBounds_toArray, List.set_cons_zero, List.set_cons_succ]
        refine wpAnyH_take (i := 3) (oi := { dst := some 65, op := Op.move (Operand.tmp 11), type := 48, pos := "more.go:62", after := #[], guard := none }) (v := ?_) rfl (by kernel_rfl) (by kernel_rfl) (by kernel_rfl) (fun _ _ _ h => h) (Or.inl ⟨by rfl, ?_⟩) (by assumption) ?_
        rotate_left
        focus ((intro w hSw; (try dsimp only at hSw); go_simp) <;> (try with_reducible rfl))
        try simp only [Act.put, List.setIfInBounds_toArray, List.set_cons_zero, List.set_cons_succ]
        refine wpAnyH_take (i := 5) (oi := { dst := some 67, op := Op.load 44 (Operand.tmp 8), type := 44, pos := "more.go:62", after := #[], guard := none }) (v := .agg cf.toArray) rfl (by kernel_rfl) (by kernel_rfl) (by kernel_rfl) (fun _ _ _ h => h) (yieldsIf_load_mid (by rfl) 44 _ rfl K 0 (by rfl) cf _ (fun w h => h) Tryz.underlying44 rfl hsz44) (by assumption) ?_
        try simp only [Act.put, List.setIfInBounds_toArray, List.set_cons_zero, List.set_cons_succ]
        refine wpAnyH_take (i := 6) (oi := { dst := some 68, op := Op.move (Operand.tmp 11), type := 48, pos := "more.go:62", after := #[], guard := none }) (v := ?_) rfl (by kernel_rfl) (by kernel_rfl) (by kernel_rfl) (fun _ _ _ h => h) (Or.inl ⟨by rfl, ?_⟩) (by assumption) ?_
        rotate_left
        focus ((intro w hSw; (try dsimp only at hSw); go_simp) <;> (try with_reducible rfl))
        try simp only [Act.put, List.setIfInBounds_toArray, List.set_cons_zero, List.set_cons_succ]
        refine wpAnyH_take (i := 8) (oi := { dst := some 70, op := Op.load 44 (Operand.tmp 8), type := 44, pos := "more.go:62", after := #[], guard := none }) (v := .agg cf.toArray) rfl (by kernel_rfl) (by kernel_rfl) (by kernel_rfl) (fun _ _ _ h => h) (yieldsIf_load_mid (by rfl) 44 _ rfl K 0 (by rfl) cf _ (fun w h => h) Tryz.underlying44 rfl hsz44) (by assumption) ?_
        try simp only [Act.put, List.setIfInBounds_toArray, List.set_cons_zero, List.set_cons_succ]
        refine wpAnyH_take (i := 9) (oi := { dst := some 71, op := Op.move (Operand.tmp 6), type := 9, pos := "more.go:62", after := #[], guard := none }) (v := ?_) rfl (by kernel_rfl) (by kernel_rfl) (by kernel_rfl) (fun _ _ _ h => h) (Or.inl ⟨by rfl, ?_⟩) (by assumption) ?_
        rotate_left
        focus ((intro w hSw; (try dsimp only at hSw); go_simp) <;> (try with_reducible rfl))
        try simp only [Act.put, List.setIfInBounds_toArray, List.set_cons_zero, List.set_cons_succ]
        refine wpAnyH_take (i := 10) (oi := { dst := some 72, op := Op.move (Operand.tmp 7), type := 9, pos := "more.go:62", after := #[], guard := none }) (v := ?_) rfl (by kernel_rfl) (by kernel_rfl) (by kernel_rfl) (fun _ _ _ h => h) (Or.inl ⟨by rfl, ?_⟩) (by assumption) ?_
        rotate_left
        focus ((intro w hSw; (try dsimp only at hSw); go_simp) <;> (try with_reducible rfl))
        try simp only [Act.put, List.setIfInBounds_toArray, List.set_cons_zero, List.set_cons_succ]
        refine wpAnyH_take (i := 11) (oi := { dst := some 73, op := Op.binOp BinOp.add 9 (Operand.tmp 71) (Operand.tmp 72) 9, type := 9, pos := "more.go:62", after := #[{ on := 9, ground := Ground.data }, { on := 10, ground := Ground.data }], guard := none }) (v := .string (sa ++ sb)) rfl (by kernel_rfl) (by kernel_rfl) (by kernel_rfl) (fun _ _ _ h => h) (Or.inl ⟨by rfl, ?_⟩) (by assumption) ?_
        focus
          intro w hSw
          go_simp
        try simp only [Act.put, List.setIfInBounds_toArray, List.set_cons_zero, List.set_cons_succ]
        refine wpAnyH_take (i := 13) (oi := { dst := some 75, op := Op.move (Operand.tmp 11), type := 48, pos := "more.go:62", after := #[], guard := none }) (v := ?_) rfl (by kernel_rfl) (by kernel_rfl) (by kernel_rfl) (fun _ _ _ h => h) (Or.inl ⟨by rfl, ?_⟩) (by assumption) ?_
        rotate_left
        focus ((intro w hSw; (try dsimp only at hSw); go_simp) <;> (try with_reducible rfl))
        try simp only [Act.put, List.setIfInBounds_toArray, List.set_cons_zero, List.set_cons_succ]
        refine wpAnyH_ready (rs := [2, 12]) (by kernel_rfl) (by simp) ?_
        refine AllReadyH.cons (o := { dst := some 64, op := Op.buildSlice 47 1 #[(0, Operand.tmp 63)], type := 47, pos := "more.go:62", after := #[{ on := 1, ground := Ground.data }], guard := none }) rfl (fun KQ hKQ => ?_) (AllReadyH.cons (o := { dst := some 74, op := Op.buildSlice 47 1 #[(0, Operand.tmp 73)], type := 47, pos := "more.go:62", after := #[{ on := 11, ground := Ground.data }], guard := none }) rfl (fun KQ hKQ => ?_) AllReadyH.nil)
        · go_simp
          have HX1 : Hid (Below w9.heap.size w9 (World.alloc x0 (Obj.cells #[.string sa] 9))) := Lib.hid (HX0.out.alloc HX0.out.size _)
          have HK1 := Lib.hid (HK0.out.alloc (Obj.cells #[.string sa] 9))
          have HgA1 : Hid (At (World.alloc x0 (Obj.cells #[.string sa] 9)) x0.heap.size [.string sa]) := Lib.hid (At.new x0 _ 9)
          generalize World.alloc x0 (Obj.cells #[.string sa] 9) = x1 at *
          generalize x0.heap.size = gA at *
          have hR1 : x1.rangeAt K 0 cf := HK1.out.r
          refine hKQ.out _ _ (by (try dsimp only); assumption) (fun hHeld => ?_)
          clear hKQ KQ
          try simp only [Act.put, List.setIfInBounds_toArray, List.set_cons_zero, List.set_cons_succ]
          refine wpAnyH_ready (rs := [4, 12]) (by kernel_rfl) (by simp) ?_
          refine AllReadyH.cons (o := { dst := some 66, op := Op.call { callee := Callee.value (Operand.func 13), args := #[Operand.tmp 62, Operand.const (Value.slice none 0 0), Operand.tmp 64, Operand.tmp 65], argTypes := #[44, 47, 47, 48] }, type := 54, pos := "more.go:62", after := #[{ on := 0, ground := Ground.data }, { on := 2, ground := Ground.data }, { on := 3, ground := Ground.data }], guard := none }) rfl (fun KQ hKQ => ?_) (AllReadyH.cons (o := { dst := some 74, op := Op.buildSlice 47 1 #[(0, Operand.tmp 73)], type := 47, pos := "more.go:62", after := #[{ on := 11, ground := Ground.data }], guard := none }) rfl (fun KQ hKQ => ?_) AllReadyH.nil)
          · go_simp
            refine (C1.out _ _ HX1.out HgA1.out).mono ?_
            rintro e x2 ⟨oa1, oc1, rfl, hb⟩
            have HX2 := Lib.hid (HX1.out.trans (hb.mono HX1.out.size))
            have HK2 := Lib.hid (HK1.out.below hb HK1.out.hi)
            have HgA2 := Lib.hid (HgA1.out.below hb HgA1.out.hi)
            clear hb
            have hR2 : x2.rangeAt K 0 cf := HK2.out.r
            refine hKQ.out _ _ (by (try dsimp only); assumption) (fun hHeld => ?_)
            clear hKQ KQ
            try simp only [Act.put, List.setIfInBounds_toArray, List.set_cons_zero, List.set_cons_succ]
            refine wpAnyH_ready (rs := [7, 12]) (by kernel_rfl) (by simp) ?_
            refine AllReadyH.cons (o := { dst := some 69, op := Op.call { callee := Callee.value (Operand.func 13), args := #[Operand.tmp 67, Operand.const (Value.slice none 0 0), Operand.const (Value.slice none 0 0), Operand.tmp 68], argTypes := #[44, 47, 47, 48] }, type := 54, pos := "more.go:62", after := #[{ on := 5, ground := Ground.data }, { on := 6, ground := Ground.data }, { on := 4, ground := Ground.chain }], guard := none }) rfl (fun KQ hKQ => ?_) (AllReadyH.cons (o := { dst := some 74, op := Op.buildSlice 47 1 #[(0, Operand.tmp 73)], type := 47, pos := "more.go:62", after := #[{ on := 11, ground := Ground.data }], guard := none }) rfl (fun KQ hKQ => ?_) AllReadyH.nil)
            · go_simp
              refine (C2.out _ HX2.out).mono ?_
              rintro e x3 ⟨oa2, oc2, rfl, hb⟩
              have HX3 := Lib.hid (HX2.out.trans (hb.mono HX2.out.size))
              have HK3 := Lib.hid (HK2.out.below hb HK2.out.hi)
              have HgA3 := Lib.hid (HgA2.out.below hb HgA2.out.hi)
              clear hb
              have hR3 : x3.rangeAt K 0 cf := HK3.out.r
              refine hKQ.out _ _ (by (try dsimp only); assumption) (fun hHeld => ?_)
              clear hKQ KQ
              try simp only [Act.put, List.setIfInBounds_toArray, List.set_cons_zero, List.set_cons_succ]
              refine wpAnyH_ready (rs := [12]) (by kernel_rfl) (by simp) ?_
              refine AllReadyH.cons (o := { dst := some 74, op := Op.buildSlice 47 1 #[(0, Operand.tmp 73)], type := 47, pos := "more.go:62", after := #[{ on := 11, ground := Ground.data }], guard := none }) rfl (fun KQ hKQ => ?_) AllReadyH.nil
              go_simp
              have HX4 : Hid (Below w9.heap.size w9 (World.alloc x3 (Obj.cells #[.string (sa ++ sb)] 9))) := Lib.hid (HX3.out.alloc HX3.out.size _)
              have HK4 := Lib.hid (HK3.out.alloc (Obj.cells #[.string (sa ++ sb)] 9))
              have HgA4 := Lib.hid (HgA3.out.alloc (Obj.cells #[.string (sa ++ sb)] 9))
              have HgB4 : Hid (At (World.alloc x3 (Obj.cells #[.string (sa ++ sb)] 9)) x3.heap.size [.string (sa ++ sb)]) := Lib.hid (At.new x3 _ 9)
              generalize World.alloc x3 (Obj.cells #[.string (sa ++ sb)] 9) = x4 at *
              generalize x3.heap.size = gB at *
              have hR4 : x4.rangeAt K 0 cf := HK4.out.r
              refine hKQ.out _ _ (by (try dsimp only); assumption) (fun hHeld => ?_)
              clear hKQ KQ
              try simp only [Act.put, List.setIfInBounds_toArray, List.set_cons_zero, List.set_cons_succ]
              refine wpAnyH_ready (rs := [14]) (by kernel_rfl) (by simp) ?_
              refine AllReadyH.cons (o := { dst := some 76, op := Op.call { callee := Callee.value (Operand.func 13), args := #[Operand.tmp 70, Operand.const (Value.slice none 0 0), Operand.tmp 74, Operand.tmp 75], argTypes := #[44, 47, 47, 48] }, type := 54, pos := "more.go:62", after := #[{ on := 8, ground := Ground.data }, { on := 12, ground := Ground.data }, { on := 13, ground := Ground.data }, { on := 7, ground := Ground.chain }], guard := none }) rfl (fun KQ hKQ => ?_) AllReadyH.nil
              go_simp
              refine (C3.out _ _ HX4.out HgB4.out).mono ?_
              rintro e x5 ⟨oa4, oc4, rfl, hb⟩
              have HX5 := Lib.hid (HX4.out.trans (hb.mono HX4.out.size))
              have HK5 := Lib.hid (HK4.out.below hb HK4.out.hi)
              have HgA5 := Lib.hid (HgA4.out.below hb HgA4.out.hi)
              have HgB5 := Lib.hid (HgB4.out.below hb HgB4.out.hi)
              clear hb
              have hR5 : x5.rangeAt K 0 cf := HK5.out.r
              refine hKQ.out _ _ (by (try dsimp only); assumption) (fun hHeld => ?_)
              clear hKQ KQ
              try simp only [Act.put, List.setIfInBounds_toArray, List.set_cons_zero, List.set_cons_succ]
              refine wpAnyH_take (i := 15) (oi := { dst := some 12, op := Op.assign (Operand.tmp 66), type := 54, pos := "more.go:62", after := #[{ on := 4, ground := Ground.data }, { on := 14, ground := Ground.chain }, { on := 0, ground := Ground.phase }, { on := 1, ground := Ground.phase }, { on := 2, ground := Ground.phase }, { on := 3, ground := Ground.phase }, { on := 4, ground := Ground.phase }, { on := 5, ground := Ground.textOnly Departure.lateStores }, { on := 6, ground := Ground.textOnly Departure.lateStores }, { on := 7, ground := Ground.textOnly Departure.lateStoresUnsure }, { on := 8, ground := Ground.textOnly Departure.lateStores }, { on := 9, ground := Ground.textOnly Departure.lateStores }, { on := 10, ground := Ground.textOnly Departure.lateStores }, { on := 11, ground := Ground.textOnly Departure.lateStores }, { on := 12, ground := Ground.textOnly Departure.lateStores }, { on := 13, ground := Ground.textOnly Departure.lateStores }, { on := 14, ground := Ground.textOnly Departure.lateStoresUnsure }], guard := none }) (v := ?_) rfl (by kernel_rfl) (by kernel_rfl) (by kernel_rfl) (fun _ _ _ h => h) (Or.inl ⟨by rfl, ?_⟩) (by assumption) ?_
              rotate_left
              focus ((intro w hSw; (try dsimp only at hSw); go_simp) <;> (try with_reducible rfl))
              try simp only [Act.put, List.setIfInBounds_toArray, List.set_cons_zero, List.set_cons_succ]
              refine wpAnyH_take (i := 16) (oi := { dst := some 13, op := Op.assign (Operand.tmp 69), type := 54, pos := "more.go:62", after := #[{ on := 7, ground := Ground.data }, { on := 15, ground := Ground.chain }, { on := 0, ground := Ground.phase }, { on := 1, ground := Ground.phase }, { on := 2, ground := Ground.phase }, { on := 3, ground := Ground.phase }, { on := 4, ground := Ground.phase }, { on := 5, ground := Ground.phase }, { on := 6, ground := Ground.phase }, { on := 7, ground := Ground.phase }, { on := 8, ground := Ground.textOnly Departure.lateStores }, { on := 9, ground := Ground.textOnly Departure.lateStores }, { on := 10, ground := Ground.textOnly Departure.lateStores }, { on := 11, ground := Ground.textOnly Departure.lateStores }, { on := 12, ground := Ground.textOnly Departure.lateStores }, { on := 13, ground := Ground.textOnly Departure.lateStores }, { on := 14, ground := Ground.textOnly Departure.lateStoresUnsure }, { on := 15, ground := Ground.phase }], guard := none }) (v := ?_) rfl (by kernel_rfl) (by kernel_rfl) (by kernel_rfl) (fun _ _ _ h => h) (Or.inl ⟨by rfl, ?_⟩) (by assumption) ?_
              rotate_left
              focus ((intro w hSw; (try dsimp only at hSw); go_simp) <;> (try with_reducible rfl))
              try simp only [Act.put, List.setIfInBounds_toArray, List.set_cons_zero, List.set_cons_succ]
              refine wpAnyH_take (i := 17) (oi := { dst := some 14, op := Op.assign (Operand.tmp 76), type := 54, pos := "more.go:62", after := #[{ on := 14, ground := Ground.data }, { on := 16, ground := Ground.chain }, { on := 0, ground := Ground.phase }, { on := 1, ground := Ground.phase }, { on := 2, ground := Ground.phase }, { on := 3, ground := Ground.phase }, { on := 4, ground := Ground.phase }, { on := 5, ground := Ground.phase }, { on := 6, ground := Ground.phase }, { on := 7, ground := Ground.phase }, { on := 8, ground := Ground.phase }, { on := 9, ground := Ground.phase }, { on := 10, ground := Ground.phase }, { on := 11, ground := Ground.phase }, { on := 12, ground := Ground.phase }, { on := 13, ground := Ground.phase }, { on := 14, ground := Ground.phase }, { on := 15, ground := Ground.phase }, { on := 16, ground := Ground.phase }], guard := none }) (v := ?_) rfl (by kernel_rfl) (by kernel_rfl) (by kernel_rfl) (fun _ _ _ h => h) (Or.inl ⟨by rfl, ?_⟩) (by assumption) ?_
              rotate_left
              focus ((intro w hSw; (try dsimp only at hSw); go_simp) <;> (try with_reducible rfl))
              try simp only [Act.put, List.setIfInBounds_toArray, List.set_cons_zero, List.set_cons_succ]
              refine wpAnyH_done (by kernel_rfl) ?_ _
              go_wp2_with fail
              go_meet
              exact ⟨_, _, _, _, _, _, rfl, rfl, rfl, HX5⟩
            · go_simp
              have HX3 : Hid (Below w9.heap.size w9 (World.alloc x2 (Obj.cells #[.string (sa ++ sb)] 9))) := Lib.hid (HX2.out.alloc HX2.out.size _)
              have HK3 := Lib.hid (HK2.out.alloc (Obj.cells #[.string (sa ++ sb)] 9))
              have HgA3 := Lib.hid (HgA2.out.alloc (Obj.cells #[.string (sa ++ sb)] 9))
              have HgB3 : Hid (At (World.alloc x2 (Obj.cells #[.string (sa ++ sb)] 9)) x2.heap.size [.string (sa ++ sb)]) := Lib.hid (At.new x2 _ 9)
              generalize World.alloc x2 (Obj.cells #[.string (sa ++ sb)] 9) = x3 at *
              generalize x2.heap.size = gB at *
              have hR3 : x3.rangeAt K 0 cf := HK3.out.r
              refine hKQ.out _ _ (by (try dsimp only); assumption) (fun hHeld => ?_)
              clear hKQ KQ
              try simp only [Act.put, List.setIfInBounds_toArray, List.set_cons_zero, List.set_cons_succ]
              refine wpAnyH_ready (rs := [7]) (by kernel_rfl) (by simp) ?_
              refine AllReadyH.cons (o := { dst := some 69, op := Op.call { callee := Callee.value (Operand.func 13), args := #[Operand.tmp 67, Operand.const (Value.slice none 0 0), Operand.const (Value.slice none 0 0), Operand.tmp 68], argTypes := #[44, 47, 47, 48] }, type := 54, pos := "more.go:62", after := #[{ on := 5, ground := Ground.data }, { on := 6, ground := Ground.data }, { on := 4, ground := Ground.chain }], guard := none }) rfl (fun KQ hKQ => ?_) AllReadyH.nil
              go_simp
              refine (C2.out _ HX3.out).mono ?_
              rintro e x4 ⟨oa3, oc3, rfl, hb⟩
              have HX4 := Lib.hid (HX3.out.trans (hb.mono HX3.out.size))
              have HK4 := Lib.hid (HK3.out.below hb HK3.out.hi)
              have HgA4 := Lib.hid (HgA3.out.below hb HgA3.out.hi)
              have HgB4 := Lib.hid (HgB3.out.below hb HgB3.out.hi)
              clear hb
              have hR4 : x4.rangeAt K 0 cf := HK4.out.r
              refine hKQ.out _ _ (by (try dsimp only); assumption) (fun hHeld => ?_)
              clear hKQ KQ
              try simp only [Act.put, List.setIfInBounds_toArray, List.set_cons_zero, List.set_cons_succ]
              refine wpAnyH_ready (rs := [14]) (by kernel_rfl) (by simp) ?_
              refine AllReadyH.cons (o := { dst := some 76, op := Op.call { callee := Callee.value (Operand.func 13), args := #[Operand.tmp 70, Operand.const (Value.slice none 0 0), Operand.tmp 74, Operand.tmp 75], argTypes := #[44, 47, 47, 48] }, type := 54, pos := "more.go:62", after := #[{ on := 8, ground := Ground.data }, { on := 12, ground := Ground.data }, { on := 13, ground := Ground.data }, { on := 7, ground := Ground.chain }], guard := none }) rfl (fun KQ hKQ => ?_) AllReadyH.nil
              go_simp
              refine (C3.out _ _ HX4.out HgB4.out).mono ?_
              rintro e x5 ⟨oa4, oc4, rfl, hb⟩
              have HX5 := Lib.hid (HX4.out.trans (hb.mono HX4.out.size))
              have HK5 := Lib.hid (HK4.out.below hb HK4.out.hi)
              have HgA5 := Lib.hid (HgA4.out.below hb HgA4.out.hi)
              have HgB5 := Lib.hid (HgB4.out.below hb HgB4.out.hi)
              clear hb
              have hR5 : x5.rangeAt K 0 cf := HK5.out.r
              refine hKQ.out _ _ (by (try dsimp only); assumption) (fun hHeld => ?_)
              clear hKQ KQ
              try simp only [Act.put, List.setIfInBounds_toArray, List.set_cons_zero, List.set_cons_succ]
              refine wpAnyH_take (i := 15) (oi := { dst := some 12, op := Op.assign (Operand.tmp 66), type := 54, pos := "more.go:62", after := #[{ on := 4, ground := Ground.data }, { on := 14, ground := Ground.chain }, { on := 0, ground := Ground.phase }, { on := 1, ground := Ground.phase }, { on := 2, ground := Ground.phase }, { on := 3, ground := Ground.phase }, { on := 4, ground := Ground.phase }, { on := 5, ground := Ground.textOnly Departure.lateStores }, { on := 6, ground := Ground.textOnly Departure.lateStores }, { on := 7, ground := Ground.textOnly Departure.lateStoresUnsure }, { on := 8, ground := Ground.textOnly Departure.lateStores }, { on := 9, ground := Ground.textOnly Departure.lateStores }, { on := 10, ground := Ground.textOnly Departure.lateStores }, { on := 11, ground := Ground.textOnly Departure.lateStores }, { on := 12, ground := Ground.textOnly Departure.lateStores }, { on := 13, ground := Ground.textOnly Departure.lateStores }, { on := 14, ground := Ground.textOnly Departure.lateStoresUnsure }], guard := none }) (v := ?_) rfl (by kernel_rfl) (by kernel_rfl) (by kernel_rfl) (fun _ _ _ h => h) (Or.inl ⟨by rfl, ?_⟩) (by assumption) ?_
              rotate_left
              focus ((intro w hSw; (try dsimp only at hSw); go_simp) <;> (try with_reducible rfl))
              try simp only [Act.put, List.setIfInBounds_toArray, List.set_cons_zero, List.set_cons_succ]
              refine wpAnyH_take (i := 16) (oi := { dst := some 13, op := Op.assign (Operand.tmp 69), type := 54, pos := "more.go:62", after := #[{ on := 7, ground := Ground.data }, { on := 15, ground := Ground.chain }, { on := 0, ground := Ground.phase }, { on := 1, ground := Ground.phase }, { on := 2, ground := Ground.phase }, { on := 3, ground := Ground.phase }, { on := 4, ground := Ground.phase }, { on := 5, ground := Ground.phase }, { on := 6, ground := Ground.phase }, { on := 7, ground := Ground.phase }, { on := 8, ground := Ground.textOnly Departure.lateStores }, { on := 9, ground := Ground.textOnly Departure.lateStores }, { on := 10, ground := Ground.textOnly Departure.lateStores }, { on := 11, ground := Ground.textOnly Departure.lateStores }, { on := 12, ground := Ground.textOnly Departure.lateStores }, { on := 13, ground := Ground.textOnly Departure.lateStores }, { on := 14, ground := Ground.textOnly Departure.lateStoresUnsure }, { on := 15, ground := Ground.phase }], guard := none }) (v := ?_) rfl (by kernel_rfl) (by kernel_rfl) (by kernel_rfl) (fun _ _ _ h => h) (Or.inl ⟨by rfl, ?_⟩) (by assumption) ?_
              rotate_left
              focus ((intro w hSw; (try dsimp only at hSw); go_simp) <;> (try with_reducible rfl))
              try simp only [Act.put, List.setIfInBounds_toArray, List.set_cons_zero, List.set_cons_succ]
              refine wpAnyH_take (i := 17) (oi := { dst := some 14, op := Op.assign (Operand.tmp 76), type := 54, pos := "more.go:62", after := #[{ on := 14, ground := Ground.data }, { on := 16, ground := Ground.chain }, { on := 0, ground := Ground.phase }, { on := 1, ground := Ground.phase }, { on := 2, ground := Ground.phase }, { on := 3, ground := Ground.phase }, { on := 4, ground := Ground.phase }, { on := 5, ground := Ground.phase }, { on := 6, ground := Ground.phase }, { on := 7, ground := Ground.phase }, { on := 8, ground := Ground.phase }, { on := 9, ground := Ground.phase }, { on := 10, ground := Ground.phase }, { on := 11, ground := Ground.phase }, { on := 12, ground := Ground.phase }, { on := 13, ground := Ground.phase }, { on := 14, ground := Ground.phase }, { on := 15, ground := Ground.phase }, { on := 16, ground := Ground.phase }], guard := none }) (v := ?_) rfl (by kernel_rfl) (by kernel_rfl) (by kernel_rfl) (fun _ _ _ h => h) (Or.inl ⟨by rfl, ?_⟩) (by assumption) ?_
              rotate_left
              focus ((intro w hSw; (try dsimp only at hSw); go_simp) <;> (try with_reducible rfl))
              try simp only [Act.put, List.setIfInBounds_toArray, List.set_cons_zero, List.set_cons_succ]
              refine wpAnyH_done (by kernel_rfl) ?_ _
              go_wp2_with fail
              go_meet
              exact ⟨_, _, _, _, _, _, rfl, rfl, rfl, HX5⟩
          · go_simp
            have HX2 : Hid (Below w9.heap.size w9 (World.alloc x1 (Obj.cells #[.string (sa ++ sb)] 9))) := Lib.hid (HX1.out.alloc HX1.out.size _)
            have HK2 := Lib.hid (HK1.out.alloc (Obj.cells #[.string (sa ++ sb)] 9))
            have HgA2 := Lib.hid (HgA1.out.alloc (Obj.cells #[.string (sa ++ sb)] 9))
            have HgB2 : Hid (At (World.alloc x1 (Obj.cells #[.string (sa ++ sb)] 9)) x1.heap.size [.string (sa ++ sb)]) := Lib.hid (At.new x1 _ 9)
            generalize World.alloc x1 (Obj.cells #[.string (sa ++ sb)] 9) = x2 at *
            generalize x1.heap.size = gB at *
            have hR2 : x2.rangeAt K 0 cf := HK2.out.r
            refine hKQ.out _ _ (by (try dsimp only); assumption) (fun hHeld => ?_)
            clear hKQ KQ
            try simp only [Act.put, List.setIfInBounds_toArray, List.set_cons_zero, List.set_cons_succ]
            refine wpAnyH_ready (rs := [4]) (by kernel_rfl) (by simp) ?_
            refine AllReadyH.cons (o := { dst := some 66, op := Op.call { callee := Callee.value (Operand.func 13), args := #[Operand.tmp 62, Operand.const (Value.slice none 0 0), Operand.tmp 64, Operand.tmp 65], argTypes := #[44, 47, 47, 48] }, type := 54, pos := "more.go:62", after := #[{ on := 0, ground := Ground.data }, { on := 2, ground := Ground.data }, { on := 3, ground := Ground.data }], guard := none }) rfl (fun KQ hKQ => ?_) AllReadyH.nil
            go_simp
            refine (C1.out _ _ HX2.out HgA2.out).mono ?_
            rintro e x3 ⟨oa2, oc2, rfl, hb⟩
            have HX3 := Lib.hid (HX2.out.trans (hb.mono HX2.out.size))
            have HK3 := Lib.hid (HK2.out.below hb HK2.out.hi)
            have HgA3 := Lib.hid (HgA2.out.below hb HgA2.out.hi)
            have HgB3 := Lib.hid (HgB2.out.below hb HgB2.out.hi)
            clear hb
            have hR3 : x3.rangeAt K 0 cf := HK3.out.r
            refine hKQ.out _ _ (by (try dsimp only); assumption) (fun hHeld => ?_)
            clear hKQ KQ
            try simp only [Act.put, List.setIfInBounds_toArray, List.set_cons_zero, List.set_cons_succ]
            refine wpAnyH_ready (rs := [7]) (by kernel_rfl) (by simp) ?_
            refine AllReadyH.cons (o := { dst := some 69, op := Op.call { callee := Callee.value (Operand.func 13), args := #[Operand.tmp 67, Operand.const (Value.slice none 0 0), Operand.const (Value.slice none 0 0), Operand.tmp 68], argTypes := #[44, 47, 47, 48] }, type := 54, pos := "more.go:62", after := #[{ on := 5, ground := Ground.data }, { on := 6, ground := Ground.data }, { on := 4, ground := Ground.chain }], guard := none }) rfl (fun KQ hKQ => ?_) AllReadyH.nil
            go_simp
            refine (C2.out _ HX3.out).mono ?_
            rintro e x4 ⟨oa3, oc3, rfl, hb⟩
            have HX4 := Lib.hid (HX3.out.trans (hb.mono HX3.out.size))
            have HK4 := Lib.hid (HK3.out.below hb HK3.out.hi)
            have HgA4 := Lib.hid (HgA3.out.below hb HgA3.out.hi)
            have HgB4 := Lib.hid (HgB3.out.below hb HgB3.out.hi)
            clear hb
            have hR4 : x4.rangeAt K 0 cf := HK4.out.r
            refine hKQ.out _ _ (by (try dsimp only); assumption) (fun hHeld => ?_)
            clear hKQ KQ
            try simp only [Act.put, List.setIfInBounds_toArray, List.set_cons_zero, List.set_cons_succ]
            refine wpAnyH_ready (rs := [14]) (by kernel_rfl) (by simp) ?_
            refine AllReadyH.cons (o := { dst := some 76, op := Op.call { callee := Callee.value (Operand.func 13), args := #[Operand.tmp 70, Operand.const (Value.slice none 0 0), Operand.tmp 74, Operand.tmp 75], argTypes := #[44, 47, 47, 48] }, type := 54, pos := "more.go:62", after := #[{ on := 8, ground := Ground.data }, { on := 12, ground := Ground.data }, { on := 13, ground := Ground.data }, { on := 7, ground := Ground.chain }], guard := none }) rfl (fun KQ hKQ => ?_) AllReadyH.nil
            go_simp
            refine (C3.out _ _ HX4.out HgB4.out).mono ?_
            rintro e x5 ⟨oa4, oc4, rfl, hb⟩
            have HX5 := Lib.hid (HX4.out.trans (hb.mono HX4.out.size))
            have HK5 := Lib.hid (HK4.out.below hb HK4.out.hi)
            have HgA5 := Lib.hid (HgA4.out.below hb HgA4.out.hi)
            have HgB5 := Lib.hid (HgB4.out.below hb HgB4.out.hi)
            clear hb
            have hR5 : x5.rangeAt K 0 cf := HK5.out.r
            refine hKQ.out _ _ (by (try dsimp only); assumption) (fun hHeld => ?_)
            clear hKQ KQ
            try simp only [Act.put, List.setIfInBounds_toArray, List.set_cons_zero, List.set_cons_succ]
            refine wpAnyH_take (i := 15) (oi := { dst := some 12, op := Op.assign (Operand.tmp 66), type := 54, pos := "more.go:62", after := #[{ on := 4, ground := Ground.data }, { on := 14, ground := Ground.chain }, { on := 0, ground := Ground.phase }, { on := 1, ground := Ground.phase }, { on := 2, ground := Ground.phase }, { on := 3, ground := Ground.phase }, { on := 4, ground := Ground.phase }, { on := 5, ground := Ground.textOnly Departure.lateStores }, { on := 6, ground := Ground.textOnly Departure.lateStores }, { on := 7, ground := Ground.textOnly Departure.lateStoresUnsure }, { on := 8, ground := Ground.textOnly Departure.lateStores }, { on := 9, ground := Ground.textOnly Departure.lateStores }, { on := 10, ground := Ground.textOnly Departure.lateStores }, { on := 11, ground := Ground.textOnly Departure.lateStores }, { on := 12, ground := Ground.textOnly Departure.lateStores }, { on := 13, ground := Ground.textOnly Departure.lateStores }, { on := 14, ground := Ground.textOnly Departure.lateStoresUnsure }], guard := none }) (v := ?_) rfl (by kernel_rfl) (by kernel_rfl) (by kernel_rfl) (fun _ _ _ h => h) (Or.inl ⟨by rfl, ?_⟩) (by assumption) ?_
            rotate_left
            focus ((intro w hSw; (try dsimp only at hSw); go_simp) <;> (try with_reducible rfl))
            try simp only [Act.put, List.setIfInBounds_toArray, List.set_cons_zero, List.set_cons_succ]
            refine wpAnyH_take (i := 16) (oi := { dst := some 13, op := Op.assign (Operand.tmp 69), type := 54, pos := "more.go:62", after := #[{ on := 7, ground := Ground.data }, { on := 15, ground := Ground.chain }, { on := 0, ground := Ground.phase }, { on := 1, ground := Ground.phase }, { on := 2, ground := Ground.phase }, { on := 3, ground := Ground.phase }, { on := 4, ground := Ground.phase }, { on := 5, ground := Ground.phase }, { on := 6, ground := Ground.phase }, { on := 7, ground := Ground.phase }, { on := 8, ground := Ground.textOnly Departure.lateStores }, { on := 9, ground := Ground.textOnly Departure.lateStores }, { on := 10, ground := Ground.textOnly Departure.lateStores }, { on := 11, ground := Ground.textOnly Departure.lateStores }, { on := 12, ground := Ground.textOnly Departure.lateStores }, { on := 13, ground := Ground.textOnly Departure.lateStores }, { on := 14, ground := Ground.textOnly Departure.lateStoresUnsure }, { on := 15, ground := Ground.phase }], guard := none }) (v := ?_) rfl (by kernel_rfl) (by kernel_rfl) (by kernel_rfl) (fun _ _ _ h => h) (Or.inl ⟨by rfl, ?_⟩) (by assumption) ?_
            rotate_left
            focus ((intro w hSw; (try dsimp only at hSw); go_simp) <;> (try with_reducible rfl))
            try simp only [Act.put, List.setIfInBounds_toArray, List.set_cons_zero, List.set_cons_succ]
            refine wpAnyH_take (i := 17) (oi := { dst := some 14, op := Op.assign (Operand.tmp 76), type := 54, pos := "more.go:62", after := #[{ on := 14, ground := Ground.data }, { on := 16, ground := Ground.chain }, { on := 0, ground := Ground.phase }, { on := 1, ground := Ground.phase }, { on := 2, ground := Ground.phase }, { on := 3, ground := Ground.phase }, { on := 4, ground := Ground.phase }, { on := 5, ground := Ground.phase }, { on := 6, ground := Ground.phase }, { on := 7, ground := Ground.phase }, { on := 8, ground := Ground.phase }, { on := 9, ground := Ground.phase }, { on := 10, ground := Ground.phase }, { on := 11, ground := Ground.phase }, { on := 12, ground := Ground.phase }, { on := 13, ground := Ground.phase }, { on := 14, ground := Ground.phase }, { on := 15, ground := Ground.phase }, { on := 16, ground := Ground.phase }], guard := none }) (v := ?_) rfl (by kernel_rfl) (by kernel_rfl) (by kernel_rfl) (fun _ _ _ h => h) (Or.inl ⟨by rfl, ?_⟩) (by assumption) ?_
            rotate_left
            focus ((intro w hSw; (try dsimp only at hSw); go_simp) <;> (try with_reducible rfl))
            try simp only [Act.put, List.setIfInBounds_toArray, List.set_cons_zero, List.set_cons_succ]
            refine wpAnyH_done (by kernel_rfl) ?_ _
            go_wp2_with fail
            go_meet
            exact ⟨_, _, _, _, _, _, rfl, rfl, rfl, HX5⟩
        · go_simp
          have HX1 : Hid (Below w9.heap.size w9 (World.alloc x0 (Obj.cells #[.string (sa ++ sb)] 9))) := Lib.hid (HX0.out.alloc HX0.out.size _)
          have HK1 := Lib.hid (HK0.out.alloc (Obj.cells #[.string (sa ++ sb)] 9))
          have HgB1 : Hid (At (World.alloc x0 (Obj.cells #[.string (sa ++ sb)] 9)) x0.heap.size [.string (sa ++ sb)]) := Lib.hid (At.new x0 _ 9)
          generalize World.alloc x0 (Obj.cells #[.string (sa ++ sb)] 9) = x1 at *
          generalize x0.heap.size = gB at *
          have hR1 : x1.rangeAt K 0 cf := HK1.out.r
          refine hKQ.out _ _ (by (try dsimp only); assumption) (fun hHeld => ?_)
          clear hKQ KQ
          try simp only [Act.put, List.setIfInBounds_toArray, List.set_cons_zero, List.set_cons_succ]
          refine wpAnyH_ready (rs := [2]) (by kernel_rfl) (by simp) ?_
          refine AllReadyH.cons (o := { dst := some 64, op := Op.buildSlice 47 1 #[(0, Operand.tmp 63)], type := 47, pos := "more.go:62", after := #[{ on := 1, ground := Ground.data }], guard := none }) rfl (fun KQ hKQ => ?_) AllReadyH.nil
          go_simp
          have HX2 : Hid (Below w9.heap.size w9 (World.alloc x1 (Obj.cells #[.string sa] 9))) := Lib.hid (HX1.out.alloc HX1.out.size _)
          have HK2 := Lib.hid (HK1.out.alloc (Obj.cells #[.string sa] 9))
          have HgB2 := Lib.hid (HgB1.out.alloc (Obj.cells #[.string sa] 9))
          have HgA2 : Hid (At (World.alloc x1 (Obj.cells #[.string sa] 9)) x1.heap.size [.string sa]) := Lib.hid (At.new x1 _ 9)
          generalize World.alloc x1 (Obj.cells #[.string sa] 9) = x2 at *
          generalize x1.heap.size = gA at *
          have hR2 : x2.rangeAt K 0 cf := HK2.out.r
          refine hKQ.out _ _ (by (try dsimp only); assumption) (fun hHeld => ?_)
          clear hKQ KQ
          try simp only [Act.put, List.setIfInBounds_toArray, List.set_cons_zero, List.set_cons_succ]
          refine wpAnyH_ready (rs := [4]) (by kernel_rfl) (by simp) ?_
          refine AllReadyH.cons (o := { dst := some 66, op := Op.call { callee := Callee.value (Operand.func 13), args := #[Operand.tmp 62, Operand.const (Value.slice none 0 0), Operand.tmp 64, Operand.tmp 65], argTypes := #[44, 47, 47, 48] }, type := 54, pos := "more.go:62", after := #[{ on := 0, ground := Ground.data }, { on := 2, ground := Ground.data }, { on := 3, ground := Ground.data }], guard := none }) rfl (fun KQ hKQ => ?_) AllReadyH.nil
          go_simp
          refine (C1.out _ _ HX2.out HgA2.out).mono ?_
          rintro e x3 ⟨oa2, oc2, rfl, hb⟩
          have HX3 := Lib.hid (HX2.out.trans (hb.mono HX2.out.size))
          have HK3 := Lib.hid (HK2.out.below hb HK2.out.hi)
          have HgA3 := Lib.hid (HgA2.out.below hb HgA2.out.hi)
          have HgB3 := Lib.hid (HgB2.out.below hb HgB2.out.hi)
          clear hb
          have hR3 : x3.rangeAt K 0 cf := HK3.out.r
          refine hKQ.out _ _ (by (try dsimp only); assumption) (fun hHeld => ?_)
          clear hKQ KQ
          try simp only [Act.put, List.setIfInBounds_toArray, List.set_cons_zero, List.set_cons_succ]
          refine wpAnyH_ready (rs := [7]) (by kernel_rfl) (by simp) ?_
          refine AllReadyH.cons (o := { dst := some 69, op := Op.call { callee := Callee.value (Operand.func 13), args := #[Operand.tmp 67, Operand.const (Value.slice none 0 0), Operand.const (Value.slice none 0 0), Operand.tmp 68], argTypes := #[44, 47, 47, 48] }, type := 54, pos := "more.go:62", after := #[{ on := 5, ground := Ground.data }, { on := 6, ground := Ground.data }, { on := 4, ground := Ground.chain }], guard := none }) rfl (fun KQ hKQ => ?_) AllReadyH.nil
          go_simp
          refine (C2.out _ HX3.out).mono ?_
          rintro e x4 ⟨oa3, oc3, rfl, hb⟩
          have HX4 := Lib.hid (HX3.out.trans (hb.mono HX3.out.size))
          have HK4 := Lib.hid (HK3.out.below hb HK3.out.hi)
          have HgA4 := Lib.hid (HgA3.out.below hb HgA3.out.hi)
          have HgB4 := Lib.hid (HgB3.out.below hb HgB3.out.hi)
          clear hb
          have hR4 : x4.rangeAt K 0 cf := HK4.out.r
          refine hKQ.out _ _ (by (try dsimp only); assumption) (fun hHeld => ?_)
          clear hKQ KQ
          try simp only [Act.put, List.setIfInBounds_toArray, List.set_cons_zero, List.set_cons_succ]
          refine wpAnyH_ready (rs := [14]) (by kernel_rfl) (by simp) ?_
          refine AllReadyH.cons (o := { dst := some 76, op := Op.call { callee := Callee.value (Operand.func 13), args := #[Operand.tmp 70, Operand.const (Value.slice none 0 0), Operand.tmp 74, Operand.tmp 75], argTypes := #[44, 47, 47, 48] }, type := 54, pos := "more.go:62", after := #[{ on := 8, ground := Ground.data }, { on := 12, ground := Ground.data }, { on := 13, ground := Ground.data }, { on := 7, ground := Ground.chain }], guard := none }) rfl (fun KQ hKQ => ?_) AllReadyH.nil
          go_simp
          refine (C3.out _ _ HX4.out HgB4.out).mono ?_
          rintro e x5 ⟨oa4, oc4, rfl, hb⟩
          have HX5 := Lib.hid (HX4.out.trans (hb.mono HX4.out.size))
          have HK5 := Lib.hid (HK4.out.below hb HK4.out.hi)
          have HgA5 := Lib.hid (HgA4.out.below hb HgA4.out.hi)
          have HgB5 := Lib.hid (HgB4.out.below hb HgB4.out.hi)
          clear hb
          have hR5 : x5.rangeAt K 0 cf := HK5.out.r
          refine hKQ.out _ _ (by (try dsimp only); assumption) (fun hHeld => ?_)
          clear hKQ KQ
          try simp only [Act.put, List.setIfInBounds_toArray, List.set_cons_zero, List.set_cons_succ]
          refine wpAnyH_take (i := 15) (oi := { dst := some 12, op := Op.assign (Operand.tmp 66), type := 54, pos := "more.go:62", after := #[{ on := 4, ground := Ground.data }, { on := 14, ground := Ground.chain }, { on := 0, ground := Ground.phase }, { on := 1, ground := Ground.phase }, { on := 2, ground := Ground.phase }, { on := 3, ground := Ground.phase }, { on := 4, ground := Ground.phase }, { on := 5, ground := Ground.textOnly Departure.lateStores }, { on := 6, ground := Ground.textOnly Departure.lateStores }, { on := 7, ground := Ground.textOnly Departure.lateStoresUnsure }, { on := 8, ground := Ground.textOnly Departure.lateStores }, { on := 9, ground := Ground.textOnly Departure.lateStores }, { on := 10, ground := Ground.textOnly Departure.lateStores }, { on := 11, ground := Ground.textOnly Departure.lateStores }, { on := 12, ground := Ground.textOnly Departure.lateStores }, { on := 13, ground := Ground.textOnly Departure.lateStores }, { on := 14, ground := Ground.textOnly Departure.lateStoresUnsure }], guard := none }) (v := ?_) rfl (by kernel_rfl) (by kernel_rfl) (by kernel_rfl) (fun _ _ _ h => h) (Or.inl ⟨by rfl, ?_⟩) (by assumption) ?_
          rotate_left
          focus ((intro w hSw; (try dsimp only at hSw); go_simp) <;> (try with_reducible rfl))
          try simp only [Act.put, List.setIfInBounds_toArray, List.set_cons_zero, List.set_cons_succ]
          refine wpAnyH_take (i := 16) (oi := { dst := some 13, op := Op.assign (Operand.tmp 69), type := 54, pos := "more.go:62", after := #[{ on := 7, ground := Ground.data }, { on := 15, ground := Ground.chain }, { on := 0, ground := Ground.phase }, { on := 1, ground := Ground.phase }, { on := 2, ground := Ground.phase }, { on := 3, ground := Ground.phase }, { on := 4, ground := Ground.phase }, { on := 5, ground := Ground.phase }, { on := 6, ground := Ground.phase }, { on := 7, ground := Ground.phase }, { on := 8, ground := Ground.textOnly Departure.lateStores }, { on := 9, ground := Ground.textOnly Departure.lateStores }, { on := 10, ground := Ground.textOnly Departure.lateStores }, { on := 11, ground := Ground.textOnly Departure.lateStores }, { on := 12, ground := Ground.textOnly Departure.lateStores }, { on := 13, ground := Ground.textOnly Departure.lateStores }, { on := 14, ground := Ground.textOnly Departure.lateStoresUnsure }, { on := 15, ground := Ground.phase }], guard := none }) (v := ?_) rfl (by kernel_rfl) (by kernel_rfl) (by kernel_rfl) (fun _ _ _ h => h) (Or.inl ⟨by rfl, ?_⟩) (by assumption) ?_
          rotate_left
          focus ((intro w hSw; (try dsimp only at hSw); go_simp) <;> (try with_reducible rfl))
          try simp only [Act.put, List.setIfInBounds_toArray, List.set_cons_zero, List.set_cons_succ]
          refine wpAnyH_take (i := 17) (oi := { dst := some 14, op := Op.assign (Operand.tmp 76), type := 54, pos := "more.go:62", after := #[{ on := 14, ground := Ground.data }, { on := 16, ground := Ground.chain }, { on := 0, ground := Ground.phase }, { on := 1, ground := Ground.phase }, { on := 2, ground := Ground.phase }, { on := 3, ground := Ground.phase }, { on := 4, ground := Ground.phase }, { on := 5, ground := Ground.phase }, { on := 6, ground := Ground.phase }, { on := 7, ground := Ground.phase }, { on := 8, ground := Ground.phase }, { on := 9, ground := Ground.phase }, { on := 10, ground := Ground.phase }, { on := 11, ground := Ground.phase }, { on := 12, ground := Ground.phase }, { on := 13, ground := Ground.phase }, { on := 14, ground := Ground.phase }, { on := 15, ground := Ground.phase }, { on := 16, ground := Ground.phase }], guard := none }) (v := ?_) rfl (by kernel_rfl) (by kernel_rfl) (by kernel_rfl) (fun _ _ _ h => h) (Or.inl ⟨by rfl, ?_⟩) (by assumption) ?_
          rotate_left
          focus ((intro w hSw; (try dsimp only at hSw); go_simp) <;> (try with_reducible rfl))
          try simp only [Act.put, List.setIfInBounds_toArray, List.set_cons_zero, List.set_cons_succ]
          refine wpAnyH_done (by kernel_rfl) ?_ _
          go_wp2_with fail
          go_meet
          exact ⟨_, _, _, _, _, _, rfl, rfl, rfl, HX5⟩
      case rest =>
        obtain ⟨o1, c1, o2, c2, o3, c3, rfl, rfl, rfl, HBY⟩ := hcut
        rename_i K0 h0
        refine h0 _ _ ?_
        clear h0 K0
        obtain ⟨y, hy⟩ : ∃ y, y = wc := ⟨_, rfl⟩
        subst hy
        have HK : Hid (At y.drew K cf) := Lib.hid (Des.At.drew (HKC.out.below HBY.out HKC.out.hi))
        have HX0 : Hid (Below w9.heap.size w9 y.drew) := Lib.hid HBY.out.drew
        have hR0 : y.drew.rangeAt K 0 cf := HK.out.r
        have hmk := make_bytes (sb.size : Int) (by omega) (by omega) y.drew
        rw [show ((sb.size : Int)).toNat = sb.size from by omega] at hmk
        have hcv := conv_zeros sb.size y.drew
        have hsz := size_zeros sb.size
        have hco2 : sa.size + (zeros sb.size).size ≤ 9223372036854775807 := by omega
        clear hsz hco HBY HKC
        go_upto_region 10 with (fail)
        refine wp_region_held_drew (S := fun w' => w'.rangeAt K 0 cf) (by kernel_rfl) (by (try dsimp only); assumption) (fun hHeld => ?_)
        generalize y.drew = x0 at *
        generalize zeros sb.size = z at *
        refine wpAnyH_take (i := 0) (oi := { dst := some 77, op := Op.load 44 (Operand.tmp 8), type := 44, pos := "more.go:63", after := #[], guard := none }) (v := .agg cf.toArray) rfl (by kernel_rfl) (by kernel_rfl) (by kernel_rfl) (fun _ _ _ h => h) (yieldsIf_load_mid (by rfl) 44 _ rfl K 0 (by rfl) cf _ (fun w h => h) Tryz.underlying44 rfl hsz44) (by assumption) ?_
        try simp only [Act.put, List.setIfInBounds_toArray, List.set_cons_zero, List.set_cons_succ]
        refine wpAnyH_take (i := 1) (oi := { dst := some 78, op := Op.move (Operand.tmp 6), type := 9, pos := "more.go:63", after := #[], guard := none }) (v := ?_) rfl (by kernel_rfl) (by kernel_rfl) (by kernel_rfl) (fun _ _ _ h => h) (Or.inl ⟨by rfl, ?_⟩) (by assumption) ?_
        rotate_left
        focus ((intro w hSw; (try dsimp only at hSw); go_simp) <;> (try with_reducible rfl))
        try simp only [Act.put, List.setIfInBounds_toArray, List.set_cons_zero, List.set_cons_succ]
        refine wpAnyH_take (i := 2) (oi := { dst := some 79, op := Op.move (Operand.tmp 7), type := 9, pos := "more.go:63", after := #[], guard := none }) (v := ?_) rfl (by kernel_rfl) (by kernel_rfl) (by kernel_rfl) (fun _ _ _ h => h) (Or.inl ⟨by rfl, ?_⟩) (by assumption) ?_
        rotate_left
        focus ((intro w hSw; (try dsimp only at hSw); go_simp) <;> (try with_reducible rfl))
        try simp only [Act.put, List.setIfInBounds_toArray, List.set_cons_zero, List.set_cons_succ]
        refine wpAnyH_take (i := 3) (oi := { dst := some 80, op := Op.call { callee := Callee.builtin Builtin.len, args := #[Operand.tmp 79], argTypes := #[9] }, type := 3, pos := "more.go:63", after := #[{ on := 2, ground := Ground.data }], guard := none }) (v := ?_) rfl (by kernel_rfl) (by kernel_rfl) (by kernel_rfl) (fun _ _ _ h => h) (Or.inl ⟨by rfl, ?_⟩) (by assumption) ?_
        rotate_left
        focus ((intro w hSw; (try dsimp only at hSw); go_simp) <;> (try with_reducible rfl))
        try simp only [Act.put, List.setIfInBounds_toArray, List.set_cons_zero, List.set_cons_succ]
        refine wpAnyH_take (i := 8) (oi := { dst := some 85, op := Op.move (Operand.tmp 11), type := 48, pos := "more.go:63", after := #[], guard := none }) (v := ?_) rfl (by kernel_rfl) (by kernel_rfl) (by kernel_rfl) (fun _ _ _ h => h) (Or.inl ⟨by rfl, ?_⟩) (by assumption) ?_
        rotate_left
        focus ((intro w hSw; (try dsimp only at hSw); go_simp) <;> (try with_reducible rfl))
        try simp only [Act.put, List.setIfInBounds_toArray, List.set_cons_zero, List.set_cons_succ]
        refine wpAnyH_ready (rs := [4]) (by kernel_rfl) (by simp) ?_
        refine AllReadyH.cons (o := { dst := some 81, op := Op.makeSlice 68 (Operand.tmp 80) (Operand.tmp 80), type := 68, pos := "more.go:63", after := #[{ on := 3, ground := Ground.data }, { on := 3, ground := Ground.data }], guard := none }) rfl (fun KQ hKQ => ?_) AllReadyH.nil
        go_simp
        have HX1 : Hid (Below w9.heap.size w9 (World.alloc x0 (Obj.cells (madeCells #[.int .u8 0] sb.size) 5))) := Lib.hid (HX0.out.alloc HX0.out.size _)
        have HK1 := Lib.hid (HK.out.alloc (Obj.cells (madeCells #[.int .u8 0] sb.size) 5))
        generalize hx1 : World.alloc x0 (Obj.cells (madeCells #[.int .u8 0] sb.size) 5) = x1 at *
        have hR1 : x1.rangeAt K 0 cf := HK1.out.r
        refine hKQ.out _ _ (by (try dsimp only); assumption) (fun hHeld => ?_)
        clear hKQ KQ
        try simp only [Act.put, List.setIfInBounds_toArray, List.set_cons_zero, List.set_cons_succ]
        refine wpAnyH_ready (rs := [5]) (by kernel_rfl) (by simp) ?_
        refine AllReadyH.cons (o := { dst := some 82, op := Op.convert 68 9 (Operand.tmp 81), type := 9, pos := "more.go:63", after := #[{ on := 4, ground := Ground.data }], guard := none }) rfl (fun KQ hKQ => ?_) AllReadyH.nil
        go_simp
        have HX2 := HX1
        have HK2 := HK1
        have hR2 := hR1
        refine hKQ.out _ _ (by (try dsimp only); assumption) (fun hHeld => ?_)
        clear hKQ KQ
        try simp only [Act.put, List.setIfInBounds_toArray, List.set_cons_zero, List.set_cons_succ]
        refine wpAnyH_take (i := 6) (oi := { dst := some 83, op := Op.binOp BinOp.add 9 (Operand.tmp 78) (Operand.tmp 82) 9, type := 9, pos := "more.go:63", after := #[{ on := 1, ground := Ground.data }, { on := 5, ground := Ground.data }], guard := none }) (v := .string (sa ++ z)) rfl (by kernel_rfl) (by kernel_rfl) (by kernel_rfl) (fun _ _ _ h => h) (Or.inl ⟨by rfl, ?_⟩) (by assumption) ?_
        focus
          intro w hSw
          go_simp
        try simp only [Act.put, List.setIfInBounds_toArray, List.set_cons_zero, List.set_cons_succ]
        refine wpAnyH_ready (rs := [7]) (by kernel_rfl) (by simp) ?_
        refine AllReadyH.cons (o := { dst := some 84, op := Op.buildSlice 47 1 #[(0, Operand.tmp 83)], type := 47, pos := "more.go:63", after := #[{ on := 6, ground := Ground.data }], guard := none }) rfl (fun KQ hKQ => ?_) AllReadyH.nil
        clear hcv hmk
        obtain ⟨x2, hx2⟩ : ∃ x2, x2 = x1 := ⟨_, rfl⟩
        subst hx2
        go_simp
        have HX3 : Hid (Below w9.heap.size w9 (World.alloc x2 (Obj.cells #[.string (sa ++ z)] 9))) := Lib.hid (HX2.out.alloc HX2.out.size _)
        have HK3 := Lib.hid (HK2.out.alloc (Obj.cells #[.string (sa ++ z)] 9))
        have HgC3 : Hid (At (World.alloc x2 (Obj.cells #[.string (sa ++ z)] 9)) x2.heap.size [.string (sa ++ z)]) := Lib.hid (At.new x2 _ 9)
        generalize World.alloc x2 (Obj.cells #[.string (sa ++ z)] 9) = x3 at *
        generalize x2.heap.size = gC at *
        have hR3 : x3.rangeAt K 0 cf := HK3.out.r
        refine hKQ.out _ _ (by (try dsimp only); assumption) (fun hHeld => ?_)
        clear hKQ KQ
        try simp only [Act.put, List.setIfInBounds_toArray, List.set_cons_zero, List.set_cons_succ]
        refine wpAnyH_ready (rs := [9]) (by kernel_rfl) (by simp) ?_
        refine AllReadyH.cons (o := { dst := some 86, op := Op.call { callee := Callee.value (Operand.func 13), args := #[Operand.tmp 77, Operand.const (Value.slice none 0 0), Operand.tmp 84, Operand.tmp 85], argTypes := #[44, 47, 47, 48] }, type := 54, pos := "more.go:63", after := #[{ on := 0, ground := Ground.data }, { on := 7, ground := Ground.data }, { on := 8, ground := Ground.data }], guard := none }) rfl (fun KQ hKQ => ?_) AllReadyH.nil
        go_simp
        refine (C4.out _ _ HX3.out HgC3.out).mono ?_
        rintro e x4 ⟨oa3, oc3, rfl, hb⟩
        have HX4 := Lib.hid (HX3.out.trans (hb.mono HX3.out.size))
        have HK4 := Lib.hid (HK3.out.below hb HK3.out.hi)
        have HgC4 := Lib.hid (HgC3.out.below hb HgC3.out.hi)
        clear hb
        have hR4 : x4.rangeAt K 0 cf := HK4.out.r
        refine hKQ.out _ _ (by (try dsimp only); assumption) (fun hHeld => ?_)
        clear hKQ KQ
        try simp only [Act.put, List.setIfInBounds_toArray, List.set_cons_zero, List.set_cons_succ]
        refine wpAnyH_take (i := 10) (oi := { dst := some 15, op := Op.assign (Operand.tmp 86), type := 54, pos := "more.go:63", after := #[{ on := 9, ground := Ground.data }, { on := 9, ground := Ground.chain }, { on := 0, ground := Ground.phase }, { on := 1, ground := Ground.phase }, { on := 2, ground := Ground.phase }, { on := 3, ground := Ground.phase }, { on := 4, ground := Ground.phase }, { on := 5, ground := Ground.phase }, { on := 6, ground := Ground.phase }, { on := 7, ground := Ground.phase }, { on := 8, ground := Ground.phase }, { on := 9, ground := Ground.phase }], guard := none }) (v := ?_) rfl (by kernel_rfl) (by kernel_rfl) (by kernel_rfl) (fun _ _ _ h => h) (Or.inl ⟨by rfl, ?_⟩) (by assumption) ?_
        rotate_left
        focus ((intro w hSw; (try dsimp only at hSw); go_simp) <;> (try with_reducible rfl))
        try simp only [Act.put, List.setIfInBounds_toArray, List.set_cons_zero, List.set_cons_succ]
        refine wpAnyH_done (by kernel_rfl) ?_ _
        by_cases x0' : k3 = 0
        · subst x0'
          obtain rfl : n2 = 0 := HNN.out
          go_wp2_with fail
          refine (awake_any _).mono ?_
          rintro e x5 ⟨rfl, hb⟩
          have HXX : Hid (Below W.heap.size W x5) := Lib.hid (HBW9.out.trans ((HX4.out.trans (hb.mono HX4.out.size)).mono HBW9.out.size))
          clear hb
          go_wp2_with fail
          go_ret
          exact RetW.mk rfl HXX.out
        · have hn2 := HNN.out
          rw [if_neg x0'] at hn2
          subst hn2
          have n0 : (k3 == 0) = false := by simpa using x0'
          go_wp2_with fail
          refine (awake_any _).mono ?_
          rintro e x5 ⟨rfl, hb⟩
          have HXX : Hid (Below W.heap.size W x5) := Lib.hid (HBW9.out.trans ((HX4.out.trans (hb.mono HX4.out.size)).mono HBW9.out.size))
          clear hb
          go_wp2_with fail
          go_ret
          exact RetW.mk rfl HXX.out
  
/-- of what the frame knows of a slice that came in -/
theorem arg_row {w : World} {a : Option Addr} {len cap : Nat} {zs : List Int} (h : (a = none ∧ len = 0 ∧ cap = 0 ∧ zs = []) ∨
    ∃ x, a = some x ∧ len ≤ cap ∧ cap ≤ maxLen ∧ zs.length = cap ∧ (∀ i, i < zs.length → w.cell? (x.add i) = some (.int .i64 (zs.getD i 0))) ∧ ∀ n ∈ zs, (Lit.int .i64 n).wf = true) : ArgRow w a len ∧ len ≤ maxLen := by
  rcases h with ⟨_, rfl, _, _⟩ | ⟨x, rfl, hl, hm, hz, hc, _⟩
  · exact ⟨⟨0, 0, [], Nat.le_refl _, fun k hk => absurd hk (by omega)⟩, Nat.zero_le _⟩
  · refine ⟨?_, Nat.le_trans hl hm⟩
    rcases Nat.eq_zero_or_pos zs.length with h0 | h0
    · exact ⟨0, 0, [], by simp; omega, fun k hk => absurd hk (by omega)⟩
    · obtain ⟨b, o, rfl, hc'⟩ := ints_at hc h0
      exact ⟨b, o, zs, by omega, fun k hk => ⟨rfl, World.block_lt_of_cell? _ _ (hc' k (by omega)), hc' k (by omega)⟩⟩
end Go.Proofs.YtimhaidiclbnhaaGreat.Ver
