/- The document's AddLater. -/
import Derived.Test.YthfjlojikbgnfaaAp
namespace Go.Proofs.Ythfjlojikbgnfaa
open Go.ChangeShapes Go.WideShapes Go.ChangeAt Go.RowKit

theorem arow_own2 {w : World} {B : Nat} {a : Option Addr} {c : Nat} {l : List Ar} (h : w.ownsRow B 40 11 (.slice a l.length c) l.length (flat l)) : ARow w a c l := by
  obtain ⟨a', c', he, _, hr, _⟩ := ARow.ofOwn h
  simp only [Value.slice.injEq] at he
  obtain ⟨rfl, _, rfl⟩ := he
  exact hr
theorem arow_take {w : World} {a : Option Addr} {cap : Nat} {l : List Ar} (h : ARow w a cap l) (k : Nat) (hk : k ≤ l.length) : ARow w a cap (l.take k) := by
  rcases h with ⟨h1, h2, h3⟩ | ⟨g, o, h1, h2, h3, h4, h5⟩
  · exact Or.inl ⟨h1, by rw [List.length_take]; omega, h3⟩
  · refine Or.inr ⟨g, o, h1, h2, by rw [List.length_take]; omega, h4, fun j v hv => h5 j v ?_⟩
    rw [← flat_take l k hk, List.getElem?_take] at hv
    split at hv
    · exact hv
    · cases hv
theorem arow_drop {w : World} {g o cap : Nat} {l : List Ar} (h : ARow w (some ⟨g, o, none⟩) cap l) (k : Nat) (hk : k ≤ l.length) : ARow w (some ⟨g, o + k * 11, none⟩) (cap - k) (l.drop k) := by
  rcases h with ⟨h1, _, _⟩ | ⟨g', o', h1, h2, h3, h4, h5⟩
  · cases h1
  · cases h1
    refine Or.inr ⟨g, o + k * 11, rfl, h2, by rw [List.length_drop]; omega, by omega, fun j v hv => ?_⟩
    rw [← flat_drop l k hk, List.getElem?_drop] at hv
    rw [Nat.add_assoc]
    exact h5 _ v hv
def AddRPost (l : List Ar) (x : Ar) (w : World) (e : Ending) (w' : World) : Prop :=
  ∃ a c, e = .returned (.slice a (l.length + 1) c) ∧ ARow w' a c (addK l x) ∧ Below w.heap.size w w'
set_option maxHeartbeats 2000000 in
theorem addR_any (a : Option Addr) (l : List Ar) (cap : Nat) (x : Ar) (w : World) (h : ARow w a cap l) (hl : l.length ≤ 50) :
    Calls Try.prog 21 #[.slice a l.length cap, arVal x] w (AddRPost l x w) := by
  obtain ⟨W0, hW0⟩ : ∃ W0, W0 = w.alloc (Obj.cells x.cells.toArray 40) := ⟨_, rfl⟩
  have HA0 : Hid (At W0 w.heap.size x.cells) := by rw [hW0]; exact At.new w x.cells 40
  have HB0 : Hid (Below w.heap.size w W0) := by rw [hW0]; exact (Below.refl _ _).alloc (Nat.le_refl _) _
  have HRW : Hid (∀ W, Below w.heap.size w W → ARow W a cap l) := fun W hb => h.below hb
  have HL : Hid (l.length ≤ 50) := hl
  clear h hl
  unfold arVal
  simp only [Ar.cells] at hW0
  go_enter Try.func21, Try.ntmps21
  go_upto_region 2 with (fail)
  rw [← hW0]
  clear hW0
  go_loopw [5] (fun v5 wr => ∃ k : Nat, k ≤ l.length ∧ v5 = .int .i64 k ∧ Hid (Below w.heap.size w wr) ∧ Hid (At wr w.heap.size x.cells) ∧ Hid (∀ j, j < k → lessB x (l.getD j Ar.zero) = false)) (fun v5 _ => 200 - (intOf v5).toNat)
  case atStart => exact ⟨0, Nat.zero_le _, rfl, HB0, HA0, fun j hj => absurd hj (Nat.not_lt_zero _)⟩
  case round =>
    obtain ⟨k, hk, rfl, HB, HAX, HF⟩ := hrel
    have hl := HL.out
    by_cases hlt : k < l.length
    · have hlt' : (k : Int) < (l.length : Int) := by omega
      obtain ⟨g, o, rfl, hgs, hcap0, hcm0, hrow⟩ := (HRW.out wr HB.out).at (by omega)
      have hr := hrow k hlt
      unfold maxLen at hcm0
      have hcap : (l.length : Int) ≤ cap := by omega
      have hcm : (cap : Int) ≤ 9223372036854775807 := by omega
      have u0 : wr.cell? ⟨g, o + k * 11, none⟩ = some (.int .i64 (l.getD k Ar.zero).id) := hr 0 _ (by simp [Ar.cells])
      have u9 : wr.cell? ⟨g, o + k * 11 + 9, none⟩ = some (.int .i64 (l.getD k Ar.zero).tk) := hr 9 _ (by simp [Ar.cells])
      have v0 := HAX.out.cell 0 _ rfl
      have v9 := HAX.out.cell 9 _ rfl
      have HSTEP : Hid (lessB x (l.getD k Ar.zero) = false → ∀ j, j < k + 1 → lessB x (l.getD j Ar.zero) = false) := fun h j hj => by
        by_cases e : j = k
        · rw [e]; exact h
        · exact HF.out j (by omega)
      have HLI : Hid (lessB x (l.getD k Ar.zero) = false ↔ ¬ (x.tk < (l.getD k Ar.zero).tk ∨ x.tk = (l.getD k Ar.zero).tk ∧ x.id < (l.getD k Ar.zero).id)) := by
        rw [Hid, ← lessB_iff]; simp
      clear hrow hr hcap0 hcm0
      rcases Int.lt_trichotomy (l.getD k Ar.zero).tk x.tk with h1 | h1 | h1
      · have HN := Lib.hid (HSTEP.out (HLI.out.2 (by omega)))
        generalize (l.getD k Ar.zero).tk = t at *
        generalize (l.getD k Ar.zero).id = i at *
        go_upto_region 2 with (fail)
        go_quiet (fail)
        go_wp2_with fail
        go_roundw
        case rel => exact ⟨k + 1, by omega, by go_num, below_drewN HB.out _, ⟨HAX.out.r, HAX.out.t, HAX.out.hi⟩, HN⟩
        case measure => simp [intOf]; omega
      · by_cases h2 : (l.getD k Ar.zero).id ≤ x.id
        · have HN := Lib.hid (HSTEP.out (HLI.out.2 (by omega)))
          have h4 : ¬ (l.getD k Ar.zero).tk < x.tk := by omega
          generalize (l.getD k Ar.zero).tk = t at *
          generalize (l.getD k Ar.zero).id = i at *
          subst h1
          go_upto_region 2 with (fail)
          go_quiet (fail)
          go_wp2_with fail
          go_roundw
          case rel => exact ⟨k + 1, by omega, by go_num, below_drewN HB.out _, ⟨HAX.out.r, HAX.out.t, HAX.out.hi⟩, HN⟩
          case measure => simp [intOf]; omega
        · have h3 : ¬ (l.getD k Ar.zero).tk < x.tk := by omega
          have HPL : Hid (place x l = k) := place_hit x l k hlt (by rw [lessB_iff]; omega) HF.out
          clear HF
          clear HSTEP HLI
          generalize (l.getD k Ar.zero).tk = t at *
          generalize (l.getD k Ar.zero).id = i at *
          subst h1
          go_upto_region 2 with (fail)
          go_quiet (fail)
          have HBz : Hid (Below w.heap.size w (wr.drewN nq)) := below_drewN HB.out _
          have HAXz : Hid (At (wr.drewN nq) w.heap.size x.cells) := ⟨HAX.out.r, HAX.out.t, HAX.out.hi⟩
          clear u0 u9 v0 v9 HB HAX hgs h2 h3
          generalize wr.drewN nq = wz at *
          have hpre : ARow wz (some ⟨g, o, none⟩) cap (l.take k) := arow_take (HRW.out wz HBz.out) k (by omega)
          have hdr : ARow wz (some ⟨g, o + k * 11, none⟩) (cap - k) (l.drop k) := arow_drop (HRW.out wz HBz.out) k (by omega)
          have hck : ¬ cap = k := by omega
          have hck2 : (k : Int) ≤ (cap : Int) := by omega
          have hkl : (k : Int) ≤ (l.length : Int) := by omega
          clear HRW

          obtain ⟨a1, c1, w2, hrun1, how1, hb2⟩ := append_all wz wz.heap.size none 0 [] (some ⟨g, o, none⟩) cap (l.take k) (World.ownsRow_nil _ _ _ _) hpre (by simp) (by simp only [List.length_take, List.length_drop]; omega) (Nat.le_refl _)
          simp only [List.length_nil, Nat.zero_add, List.nil_append] at hrun1 how1
          obtain ⟨W3, hW3⟩ : ∃ W3, W3 = w2.alloc (Obj.cells x.cells.toArray 40) := ⟨_, rfl⟩
          have hb3 : Below wz.heap.size wz W3 := by rw [hW3]; exact hb2.alloc hb2.size _
          have hv3 : W3.rangeAt w2.heap.size 0 x.cells := by rw [hW3]; exact (At.new w2 x.cells 40).r
          have how3 : W3.ownsRow wz.heap.size 40 11 (.slice a1 (l.take k).length c1) (l.take k).length (flat (l.take k)) := by rw [hW3]; exact how1.alloc _
          obtain ⟨a2, c2, w4, hrun2, how2, _, _, hb4⟩ := append_one W3 wz.heap.size a1 c1 (l.take k) x w2.heap.size how3 hv3 (by simp only [List.length_take, List.length_drop]; omega) hb3.size
          have hb5 : Below wz.heap.size wz w4 := hb3.trans hb4
          rw [show (l.take k).length + 1 = (l.take k ++ [x]).length from by simp] at how2
          obtain ⟨a3, c3, w6, hrun3, how6, hb6⟩ := append_all w4 wz.heap.size a2 c2 (l.take k ++ [x]) (some ⟨g, o + k * 11, none⟩) (cap - k) (l.drop k) how2 (hdr.below hb5) (by simp only [List.length_append, List.length_singleton]; simp only [List.length_take, List.length_drop]; omega) (by simp only [List.length_take, List.length_drop]; omega) hb5.size
          have hb7 : Below wz.heap.size wz w6 := hb5.trans hb6
          have HRF : Hid (ARow w6 a3 c3 (addK l x)) := by
            have e1 : l.take k ++ [x] ++ l.drop k = addK l x := by unfold addK insAt; rw [HPL.out]; simp
            rw [e1, show (l.take k ++ [x]).length + (l.drop k).length = (addK l x).length from by rw [← e1]; simp only [List.length_append]] at how6
            exact arow_own2 how6
          have hd1 : (l.take k ++ [x]).length = k + 1 := by simp only [List.length_append, List.length_take, List.length_singleton]; omega
          have hd2 : (l.drop k).length = l.length - k := List.length_drop
          have hd3 : (l.take k).length = k := by rw [List.length_take]; omega
          rw [hd1, hd2, show k + 1 + (l.length - k) = l.length + 1 from by omega] at hrun3
          rw [hd3] at hrun1 hrun2
          have HLE : Hid (l.length + 1 = l.length + 1) := rfl
          have HX2 : Hid (w2.rangeAt w.heap.size 0 x.cells) := fun j v hv => (hb2.cell (p := ⟨w.heap.size, 0 + j, none⟩) HAXz.out.hi).trans (HAXz.out.r j v hv)
          have HA1 := Lib.hid hrun1
          have HA2 := Lib.hid hrun2
          have HA3 := Lib.hid hrun3
          have HBF : Hid (Below w.heap.size w w6) := HBz.out.trans (hb7.mono HBz.out.size)
          simp only [Ar.cells] at hW3
          clear hrun1 hrun2 hrun3 how1 how2 how3 how6 hb2 hb3 hb4 hb5 hb6 hb7 hv3 hpre
          go_wp2_with (first | (with_reducible refine hold_load 40 rfl ?_) | (at_builtin; first | (rw [← hW3]; clear hW3; refine Lib.wpList_append_run _ rfl _ _ _ _ rfl _ _ rfl rfl _ _ HA2.out ?_; clear HA2) | (refine Lib.wpList_append_run _ rfl _ _ _ _ rfl _ _ rfl rfl _ _ HA1.out ?_; clear HA1) | refine Lib.wpList_append_run _ rfl _ _ _ _ rfl _ _ rfl rfl _ _ HA3.out ?_))
          refine load_ato 0 HX2.out Try.underlying40 rfl size40 rfl rfl rfl ?_
          simp only [Ar.cells]
          go_wp2_with (at_builtin; first | (rw [← hW3]; clear hW3; refine Lib.wpList_append_run _ rfl _ _ _ _ rfl _ _ rfl rfl _ _ HA2.out ?_; clear HA2) | refine Lib.wpList_append_run _ rfl _ _ _ _ rfl _ _ rfl rfl _ _ HA3.out ?_)
          go_ret
          exact ⟨a3, c3, rfl, HRF.out, HBF.out⟩
      · have h3 : ¬ (l.getD k Ar.zero).tk < x.tk := by omega
        have h4 : ¬ (l.getD k Ar.zero).tk = x.tk := by omega
        have HPL : Hid (place x l = k) := place_hit x l k hlt (by rw [lessB_iff]; omega) HF.out
        clear HF
        clear HSTEP HLI
        generalize (l.getD k Ar.zero).tk = t at *
        generalize (l.getD k Ar.zero).id = i at *
        go_upto_region 2 with (fail)
        go_quiet (fail)
        have HBz : Hid (Below w.heap.size w (wr.drewN nq)) := below_drewN HB.out _
        have HAXz : Hid (At (wr.drewN nq) w.heap.size x.cells) := ⟨HAX.out.r, HAX.out.t, HAX.out.hi⟩
        clear u0 u9 v0 v9 HB HAX hgs h1 h3 h4
        generalize wr.drewN nq = wz at *
        have hpre : ARow wz (some ⟨g, o, none⟩) cap (l.take k) := arow_take (HRW.out wz HBz.out) k (by omega)
        have hdr : ARow wz (some ⟨g, o + k * 11, none⟩) (cap - k) (l.drop k) := arow_drop (HRW.out wz HBz.out) k (by omega)
        have hck : ¬ cap = k := by omega
        have hck2 : (k : Int) ≤ (cap : Int) := by omega
        have hkl : (k : Int) ≤ (l.length : Int) := by omega
        clear HRW

        obtain ⟨a1, c1, w2, hrun1, how1, hb2⟩ := append_all wz wz.heap.size none 0 [] (some ⟨g, o, none⟩) cap (l.take k) (World.ownsRow_nil _ _ _ _) hpre (by simp) (by simp only [List.length_take, List.length_drop]; omega) (Nat.le_refl _)
        simp only [List.length_nil, Nat.zero_add, List.nil_append] at hrun1 how1
        obtain ⟨W3, hW3⟩ : ∃ W3, W3 = w2.alloc (Obj.cells x.cells.toArray 40) := ⟨_, rfl⟩
        have hb3 : Below wz.heap.size wz W3 := by rw [hW3]; exact hb2.alloc hb2.size _
        have hv3 : W3.rangeAt w2.heap.size 0 x.cells := by rw [hW3]; exact (At.new w2 x.cells 40).r
        have how3 : W3.ownsRow wz.heap.size 40 11 (.slice a1 (l.take k).length c1) (l.take k).length (flat (l.take k)) := by rw [hW3]; exact how1.alloc _
        obtain ⟨a2, c2, w4, hrun2, how2, _, _, hb4⟩ := append_one W3 wz.heap.size a1 c1 (l.take k) x w2.heap.size how3 hv3 (by simp only [List.length_take, List.length_drop]; omega) hb3.size
        have hb5 : Below wz.heap.size wz w4 := hb3.trans hb4
        rw [show (l.take k).length + 1 = (l.take k ++ [x]).length from by simp] at how2
        obtain ⟨a3, c3, w6, hrun3, how6, hb6⟩ := append_all w4 wz.heap.size a2 c2 (l.take k ++ [x]) (some ⟨g, o + k * 11, none⟩) (cap - k) (l.drop k) how2 (hdr.below hb5) (by simp only [List.length_append, List.length_singleton]; simp only [List.length_take, List.length_drop]; omega) (by simp only [List.length_take, List.length_drop]; omega) hb5.size
        have hb7 : Below wz.heap.size wz w6 := hb5.trans hb6
        have HRF : Hid (ARow w6 a3 c3 (addK l x)) := by
          have e1 : l.take k ++ [x] ++ l.drop k = addK l x := by unfold addK insAt; rw [HPL.out]; simp
          rw [e1, show (l.take k ++ [x]).length + (l.drop k).length = (addK l x).length from by rw [← e1]; simp only [List.length_append]] at how6
          exact arow_own2 how6
        have hd1 : (l.take k ++ [x]).length = k + 1 := by simp only [List.length_append, List.length_take, List.length_singleton]; omega
        have hd2 : (l.drop k).length = l.length - k := List.length_drop
        have hd3 : (l.take k).length = k := by rw [List.length_take]; omega
        rw [hd1, hd2, show k + 1 + (l.length - k) = l.length + 1 from by omega] at hrun3
        rw [hd3] at hrun1 hrun2
        have HLE : Hid (l.length + 1 = l.length + 1) := rfl
        have HX2 : Hid (w2.rangeAt w.heap.size 0 x.cells) := fun j v hv => (hb2.cell (p := ⟨w.heap.size, 0 + j, none⟩) HAXz.out.hi).trans (HAXz.out.r j v hv)
        have HA1 := Lib.hid hrun1
        have HA2 := Lib.hid hrun2
        have HA3 := Lib.hid hrun3
        have HBF : Hid (Below w.heap.size w w6) := HBz.out.trans (hb7.mono HBz.out.size)
        simp only [Ar.cells] at hW3
        clear hrun1 hrun2 hrun3 how1 how2 how3 how6 hb2 hb3 hb4 hb5 hb6 hb7 hv3 hpre
        go_wp2_with (first | (with_reducible refine hold_load 40 rfl ?_) | (at_builtin; first | (rw [← hW3]; clear hW3; refine Lib.wpList_append_run _ rfl _ _ _ _ rfl _ _ rfl rfl _ _ HA2.out ?_; clear HA2) | (refine Lib.wpList_append_run _ rfl _ _ _ _ rfl _ _ rfl rfl _ _ HA1.out ?_; clear HA1) | refine Lib.wpList_append_run _ rfl _ _ _ _ rfl _ _ rfl rfl _ _ HA3.out ?_))
        refine load_ato 0 HX2.out Try.underlying40 rfl size40 rfl rfl rfl ?_
        simp only [Ar.cells]
        go_wp2_with (at_builtin; first | (rw [← hW3]; clear hW3; refine Lib.wpList_append_run _ rfl _ _ _ _ rfl _ _ rfl rfl _ _ HA2.out ?_; clear HA2) | refine Lib.wpList_append_run _ rfl _ _ _ _ rfl _ _ rfl rfl _ _ HA3.out ?_)
        go_ret
        exact ⟨a3, c3, rfl, HRF.out, HBF.out⟩
    · obtain rfl : k = l.length := by omega
      have HPL : Hid (place x l = l.length) := place_miss x l HF.out
      have hge : ¬ ((l.length : Int) < (l.length : Int)) := by omega
      clear HF
      go_upto_region 2 with (fail)
      go_quiet (fail)
      have HBz : Hid (Below w.heap.size w (wr.drewN nq)) := below_drewN HB.out _
      have HAXz : Hid (At (wr.drewN nq) w.heap.size x.cells) := ⟨HAX.out.r, HAX.out.t, HAX.out.hi⟩
      clear HB HAX hlt hk
      generalize wr.drewN nq = wz at *
      rcases HRW.out wz HBz.out with ⟨rfl, hl0, rfl⟩ | ⟨g, o, rfl, hgs, hc1, hc2, _⟩
      · obtain rfl := List.length_eq_zero_iff.1 hl0
        have hpre : ARow wz none 0 ([] : List Ar) := Or.inl ⟨rfl, rfl, rfl⟩
        clear hl0
        have hdr : ARow wz none 0 [] := Or.inl ⟨rfl, rfl, rfl⟩
        clear HRW

        obtain ⟨a1, c1, w2, hrun1, how1, hb2⟩ := append_all wz wz.heap.size none 0 [] none 0 ([] : List Ar) (World.ownsRow_nil _ _ _ _) hpre (by simp) (by (try simp only [List.length_nil]); omega) (Nat.le_refl _)
        simp only [List.length_nil, Nat.zero_add, List.nil_append] at hrun1 how1
        obtain ⟨W3, hW3⟩ : ∃ W3, W3 = w2.alloc (Obj.cells x.cells.toArray 40) := ⟨_, rfl⟩
        have hb3 : Below wz.heap.size wz W3 := by rw [hW3]; exact hb2.alloc hb2.size _
        have hv3 : W3.rangeAt w2.heap.size 0 x.cells := by rw [hW3]; exact (At.new w2 x.cells 40).r
        have how3 : W3.ownsRow wz.heap.size 40 11 (.slice a1 (([] : List Ar)).length c1) (([] : List Ar)).length (flat (([] : List Ar))) := by rw [hW3]; exact how1.alloc _
        obtain ⟨a2, c2, w4, hrun2, how2, _, _, hb4⟩ := append_one W3 wz.heap.size a1 c1 (([] : List Ar)) x w2.heap.size how3 hv3 (by (try simp only [List.length_nil]); omega) hb3.size
        have hb5 : Below wz.heap.size wz w4 := hb3.trans hb4
        rw [show (([] : List Ar)).length + 1 = (([] : List Ar) ++ [x]).length from by simp] at how2
        obtain ⟨a3, c3, w6, hrun3, how6, hb6⟩ := append_all w4 wz.heap.size a2 c2 (([] : List Ar) ++ [x]) none 0 [] how2 (hdr.below hb5) (by simp only [List.length_append, List.length_singleton]; (try simp only [List.length_nil]); omega) (by (try simp only [List.length_nil]); omega) hb5.size
        have hb7 : Below wz.heap.size wz w6 := hb5.trans hb6
        have HRF : Hid (ARow w6 a3 c3 (addK [] x)) := by
          have e1 : [] ++ [x] ++ [] = addK [] x := rfl
          rw [e1, show (([] : List Ar) ++ [x]).length + ([] : List Ar).length = (addK [] x).length from rfl] at how6
          exact arow_own2 how6
        simp only [List.length_append, List.length_nil, List.length_singleton, Nat.zero_add, Nat.add_zero, List.nil_append] at hrun1 hrun2 hrun3
        have HLE : Hid (True) := trivial
        have HX2 : Hid (w2.rangeAt w.heap.size 0 x.cells) := fun j v hv => (hb2.cell (p := ⟨w.heap.size, 0 + j, none⟩) HAXz.out.hi).trans (HAXz.out.r j v hv)
        have HA1 := Lib.hid hrun1
        have HA2 := Lib.hid hrun2
        have HA3 := Lib.hid hrun3
        have HBF : Hid (Below w.heap.size w w6) := HBz.out.trans (hb7.mono HBz.out.size)
        simp only [Ar.cells] at hW3
        clear hrun1 hrun2 hrun3 how1 how2 how3 how6 hb2 hb3 hb4 hb5 hb6 hb7 hv3 hpre
        go_wp2_with (first | (with_reducible refine hold_load 40 rfl ?_) | (at_builtin; first | (rw [← hW3]; clear hW3; refine Lib.wpList_append_run _ rfl _ _ _ _ rfl _ _ rfl rfl _ _ HA2.out ?_; clear HA2) | (refine Lib.wpList_append_run _ rfl _ _ _ _ rfl _ _ rfl rfl _ _ HA1.out ?_; clear HA1) | refine Lib.wpList_append_run _ rfl _ _ _ _ rfl _ _ rfl rfl _ _ HA3.out ?_))
        refine load_ato 0 HX2.out Try.underlying40 rfl size40 rfl rfl rfl ?_
        simp only [Ar.cells]
        go_wp2_with (at_builtin; first | (rw [← hW3]; clear hW3; refine Lib.wpList_append_run _ rfl _ _ _ _ rfl _ _ rfl rfl _ _ HA2.out ?_; clear HA2) | refine Lib.wpList_append_run _ rfl _ _ _ _ rfl _ _ rfl rfl _ _ HA3.out ?_)
        go_ret
        exact ⟨a3, c3, rfl, HRF.out, HBF.out⟩
      · have hcap : (l.length : Int) ≤ cap := by omega
        unfold maxLen at hc2
        have hcm : (cap : Int) ≤ 9223372036854775807 := by omega
        clear hc2
        by_cases hck : cap = l.length
        · have hpre : ARow wz (some ⟨g, o, none⟩) cap l := HRW.out wz HBz.out
          have hdr : ARow wz (some ⟨g, o, none⟩) 0 [] := Or.inr ⟨g, o, rfl, hgs, Nat.le_refl _, Nat.zero_le _, fun j v hv => by simp [flat] at hv⟩
          clear HRW

          obtain ⟨a1, c1, w2, hrun1, how1, hb2⟩ := append_all wz wz.heap.size none 0 [] (some ⟨g, o, none⟩) cap l (World.ownsRow_nil _ _ _ _) hpre (by simp) (by (try simp only [List.length_nil]); omega) (Nat.le_refl _)
          simp only [List.length_nil, Nat.zero_add, List.nil_append] at hrun1 how1
          obtain ⟨W3, hW3⟩ : ∃ W3, W3 = w2.alloc (Obj.cells x.cells.toArray 40) := ⟨_, rfl⟩
          have hb3 : Below wz.heap.size wz W3 := by rw [hW3]; exact hb2.alloc hb2.size _
          have hv3 : W3.rangeAt w2.heap.size 0 x.cells := by rw [hW3]; exact (At.new w2 x.cells 40).r
          have how3 : W3.ownsRow wz.heap.size 40 11 (.slice a1 (l).length c1) (l).length (flat (l)) := by rw [hW3]; exact how1.alloc _
          obtain ⟨a2, c2, w4, hrun2, how2, _, _, hb4⟩ := append_one W3 wz.heap.size a1 c1 (l) x w2.heap.size how3 hv3 (by (try simp only [List.length_nil]); omega) hb3.size
          have hb5 : Below wz.heap.size wz w4 := hb3.trans hb4
          rw [show (l).length + 1 = (l ++ [x]).length from by simp] at how2
          obtain ⟨a3, c3, w6, hrun3, how6, hb6⟩ := append_all w4 wz.heap.size a2 c2 (l ++ [x]) (some ⟨g, o, none⟩) 0 [] how2 (hdr.below hb5) (by simp only [List.length_append, List.length_singleton]; (try simp only [List.length_nil]); omega) (by (try simp only [List.length_nil]); omega) hb5.size
          have hb7 : Below wz.heap.size wz w6 := hb5.trans hb6
          have HRF : Hid (ARow w6 a3 c3 (addK l x)) := by
            have e1 : l ++ [x] ++ [] = addK l x := by unfold addK insAt; rw [HPL.out]; simp
            rw [e1, show (l ++ [x]).length + ([] : List Ar).length = (addK l x).length from by rw [← e1]; simp] at how6
            exact arow_own2 how6
          rw [show (l ++ [x]).length = l.length + 1 from by simp, show ([] : List Ar).length = 0 from rfl, Nat.add_zero] at hrun3
          have HLE : Hid (l.length + 1 = l.length + 1) := rfl
          have HX2 : Hid (w2.rangeAt w.heap.size 0 x.cells) := fun j v hv => (hb2.cell (p := ⟨w.heap.size, 0 + j, none⟩) HAXz.out.hi).trans (HAXz.out.r j v hv)
          have HA1 := Lib.hid hrun1
          have HA2 := Lib.hid hrun2
          have HA3 := Lib.hid hrun3
          have HBF : Hid (Below w.heap.size w w6) := HBz.out.trans (hb7.mono HBz.out.size)
          simp only [Ar.cells] at hW3
          clear hrun1 hrun2 hrun3 how1 how2 how3 how6 hb2 hb3 hb4 hb5 hb6 hb7 hv3 hpre
          go_wp2_with (first | (with_reducible refine hold_load 40 rfl ?_) | (at_builtin; first | (rw [← hW3]; clear hW3; refine Lib.wpList_append_run _ rfl _ _ _ _ rfl _ _ rfl rfl _ _ HA2.out ?_; clear HA2) | (refine Lib.wpList_append_run _ rfl _ _ _ _ rfl _ _ rfl rfl _ _ HA1.out ?_; clear HA1) | refine Lib.wpList_append_run _ rfl _ _ _ _ rfl _ _ rfl rfl _ _ HA3.out ?_))
          refine load_ato 0 HX2.out Try.underlying40 rfl size40 rfl rfl rfl ?_
          simp only [Ar.cells]
          go_wp2_with (at_builtin; first | (rw [← hW3]; clear hW3; refine Lib.wpList_append_run _ rfl _ _ _ _ rfl _ _ rfl rfl _ _ HA2.out ?_; clear HA2) | refine Lib.wpList_append_run _ rfl _ _ _ _ rfl _ _ rfl rfl _ _ HA3.out ?_)
          go_ret
          exact ⟨a3, c3, rfl, HRF.out, HBF.out⟩
        · have hpre : ARow wz (some ⟨g, o, none⟩) cap l := HRW.out wz HBz.out
          have hdr : ARow wz (some ⟨g, o + l.length * 11, none⟩) (cap - l.length) [] := Or.inr ⟨g, _, rfl, hgs, Nat.zero_le _, by unfold maxLen; omega, fun j v hv => by simp [flat] at hv⟩
          clear HRW

          obtain ⟨a1, c1, w2, hrun1, how1, hb2⟩ := append_all wz wz.heap.size none 0 [] (some ⟨g, o, none⟩) cap l (World.ownsRow_nil _ _ _ _) hpre (by simp) (by (try simp only [List.length_nil]); omega) (Nat.le_refl _)
          simp only [List.length_nil, Nat.zero_add, List.nil_append] at hrun1 how1
          obtain ⟨W3, hW3⟩ : ∃ W3, W3 = w2.alloc (Obj.cells x.cells.toArray 40) := ⟨_, rfl⟩
          have hb3 : Below wz.heap.size wz W3 := by rw [hW3]; exact hb2.alloc hb2.size _
          have hv3 : W3.rangeAt w2.heap.size 0 x.cells := by rw [hW3]; exact (At.new w2 x.cells 40).r
          have how3 : W3.ownsRow wz.heap.size 40 11 (.slice a1 (l).length c1) (l).length (flat (l)) := by rw [hW3]; exact how1.alloc _
          obtain ⟨a2, c2, w4, hrun2, how2, _, _, hb4⟩ := append_one W3 wz.heap.size a1 c1 (l) x w2.heap.size how3 hv3 (by (try simp only [List.length_nil]); omega) hb3.size
          have hb5 : Below wz.heap.size wz w4 := hb3.trans hb4
          rw [show (l).length + 1 = (l ++ [x]).length from by simp] at how2
          obtain ⟨a3, c3, w6, hrun3, how6, hb6⟩ := append_all w4 wz.heap.size a2 c2 (l ++ [x]) (some ⟨g, o + l.length * 11, none⟩) (cap - l.length) [] how2 (hdr.below hb5) (by simp only [List.length_append, List.length_singleton]; (try simp only [List.length_nil]); omega) (by (try simp only [List.length_nil]); omega) hb5.size
          have hb7 : Below wz.heap.size wz w6 := hb5.trans hb6
          have HRF : Hid (ARow w6 a3 c3 (addK l x)) := by
            have e1 : l ++ [x] ++ [] = addK l x := by unfold addK insAt; rw [HPL.out]; simp
            rw [e1, show (l ++ [x]).length + ([] : List Ar).length = (addK l x).length from by rw [← e1]; simp] at how6
            exact arow_own2 how6
          rw [show (l ++ [x]).length = l.length + 1 from by simp, show ([] : List Ar).length = 0 from rfl, Nat.add_zero] at hrun3
          have HLE : Hid (l.length + 1 = l.length + 1) := rfl
          have HX2 : Hid (w2.rangeAt w.heap.size 0 x.cells) := fun j v hv => (hb2.cell (p := ⟨w.heap.size, 0 + j, none⟩) HAXz.out.hi).trans (HAXz.out.r j v hv)
          have HA1 := Lib.hid hrun1
          have HA2 := Lib.hid hrun2
          have HA3 := Lib.hid hrun3
          have HBF : Hid (Below w.heap.size w w6) := HBz.out.trans (hb7.mono HBz.out.size)
          simp only [Ar.cells] at hW3
          clear hrun1 hrun2 hrun3 how1 how2 how3 how6 hb2 hb3 hb4 hb5 hb6 hb7 hv3 hpre
          go_wp2_with (first | (with_reducible refine hold_load 40 rfl ?_) | (at_builtin; first | (rw [← hW3]; clear hW3; refine Lib.wpList_append_run _ rfl _ _ _ _ rfl _ _ rfl rfl _ _ HA2.out ?_; clear HA2) | (refine Lib.wpList_append_run _ rfl _ _ _ _ rfl _ _ rfl rfl _ _ HA1.out ?_; clear HA1) | refine Lib.wpList_append_run _ rfl _ _ _ _ rfl _ _ rfl rfl _ _ HA3.out ?_))
          refine load_ato 0 HX2.out Try.underlying40 rfl size40 rfl rfl rfl ?_
          simp only [Ar.cells]
          go_wp2_with (at_builtin; first | (rw [← hW3]; clear hW3; refine Lib.wpList_append_run _ rfl _ _ _ _ rfl _ _ rfl rfl _ _ HA2.out ?_; clear HA2) | refine Lib.wpList_append_run _ rfl _ _ _ _ rfl _ _ rfl rfl _ _ HA3.out ?_)
          go_ret
          exact ⟨a3, c3, rfl, HRF.out, HBF.out⟩
end Go.Proofs.Ythfjlojikbgnfaa
