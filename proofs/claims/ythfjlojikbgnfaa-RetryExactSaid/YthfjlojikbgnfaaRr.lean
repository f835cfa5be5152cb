/- The document's Ready. -/
import Derived.Test.YthfjlojikbgnfaaRd
namespace Go.Proofs.Ythfjlojikbgnfaa
open Go.ChangeShapes Go.WideShapes Go.ChangeAt Go.RowKit

set_option maxHeartbeats 1000000 in
theorem readyR_any (a : Option Addr) (l : List Ar) (cap : Nat) (now : Int) (w : World) (h : ARow w a cap l) (hm : ∀ x ∈ l, MemOK w x) (hl : l.length ≤ 100) :
    Calls Try.prog 15 #[.slice a l.length cap, .int .i64 now] w (ReadyPost l now w) := by
  have HME := Lib.hid hm
  have HRW : Hid (∀ W, Below w.heap.size w W → ∀ j, j < l.length → ∃ g o, a = some ⟨g, o, none⟩ ∧ (l.length : Int) ≤ cap ∧ W.rangeAt g (o + j * 11) (l.getD j Ar.zero).cells) := by
    intro W hb j hj
    obtain ⟨g, o, h1, h2, h3, h4, h5⟩ := (h.below hb).at (by omega)
    exact ⟨g, o, h1, by omega, h5 j hj⟩
  clear h hm
  go_enter Try.func15, Try.ntmps15
  go_wp2_with fail
  go_loopw [6, 7, 8] (fun v4 v5 v11 wr => ∃ (k : Nat) (l1 l2 : List Ar) (a1 : Option Addr) (c1 : Nat) (a2 : Option Addr) (c2 : Nat), k ≤ l.length ∧ v4 = .slice a1 l1.length c1 ∧ v5 = .slice a2 l2.length c2 ∧ v11 = .int .i64 k ∧ Hid (l1 = (l.take k).filter (lateB now)) ∧ Hid (l2 = (l.take k).filter (fun x => !lateB now x)) ∧
    Hid (wr.ownsRow w.heap.size 40 11 (.slice a1 l1.length c1) l1.length (flat l1)) ∧ Hid (wr.ownsRow w.heap.size 40 11 (.slice a2 l2.length c2) l2.length (flat l2)) ∧ Hid (∀ q p, a1 = some q → a2 = some p → q.block ≠ p.block) ∧ Hid (Below w.heap.size w wr)) (fun _ _ v11 _ => 20000 - (intOf v11).toNat)
  case atStart => exact ⟨0, [], [], none, 0, none, 0, Nat.zero_le _, rfl, rfl, rfl, rfl, rfl, World.ownsRow_nil _ _ _ _, World.ownsRow_nil _ _ _ _, (fun q _ hq => by cases hq), Below.refl _ _⟩
  case round =>
    obtain ⟨k, l1, l2, a1, c1, a2, c2, hk, rfl, rfl, rfl, HF1, HF2, HO1, HO2, HSP, HBel⟩ := hrel
    by_cases hlt : k < l.length
    · have hlt' : (k : Int) < (l.length : Int) := by omega
      obtain ⟨g, o, rfl, hcap, hrow⟩ := HRW.out wr HBel.out k hlt
      have HLE : Hid (l1.length ≤ 100 ∧ l2.length ≤ 100) := by
        have e1 := congrArg List.length HF1.out
        have e2 := congrArg List.length HF2.out
        have f1 := List.length_filter_le (lateB now) (l.take k)
        have f2 := List.length_filter_le (fun x => !lateB now x) (l.take k)
        have f3 := List.length_take_le k l
        exact ⟨by omega, by omega⟩
      have hs1 := filter_succ (lateB now) l k hlt
      have hs2 := filter_succ (fun x => !lateB now x) l k hlt
      rw [← HF1.out] at hs1
      rw [← HF2.out] at hs2
      generalize l.getD k Ar.zero = x at *
      have HROW := Lib.hid hrow
      have hc9 : wr.cell? ⟨g, o + k * 11 + 9, none⟩ = some (.int .i64 x.tk) := hrow 9 _ (by simp [Ar.cells])
      clear hrow
      obtain ⟨W3, hW3⟩ : ∃ W3, W3 = wr.alloc (Obj.cells x.cells.toArray 40) := ⟨_, rfl⟩
      have HB3 : Hid (Below wr.heap.size wr W3) := by rw [hW3]; exact (Below.refl _ _).alloc (Nat.le_refl _) _
      have HV3 : Hid (W3.rangeAt wr.heap.size 0 x.cells) := by rw [hW3]; exact (At.new wr x.cells 40).r
      simp only [Ar.cells] at hW3
      by_cases hlate : now < x.tk
      · have hd : lateB now x = true := decide_eq_true hlate
        rw [if_pos hd] at hs1
        rw [if_neg (by rw [hd]; simp)] at hs2
        have HE1 : Hid (l1 ++ [x] = (l.take (k + 1)).filter (lateB now)) := hs1.symm
        have HE2 : Hid (l2 = (l.take (k + 1)).filter (fun x => !lateB now x)) := hs2.symm
        clear hs1 hs2 hd
        have HO3 : Hid (W3.ownsRow w.heap.size 40 11 (.slice a1 l1.length c1) l1.length (flat l1)) := ownsRow_below HO1.out HB3.out
        have HP3 : Hid (W3.ownsRow w.heap.size 40 11 (.slice a2 l2.length c2) l2.length (flat l2)) := ownsRow_below HO2.out HB3.out
        obtain ⟨aN, cN, wN, hrun, hown, hfr, hwh, hbN⟩ := append_one W3 w.heap.size a1 c1 l1 x wr.heap.size HO3.out HV3.out (by have := HLE.out; omega) (by have := HBel.out.size; have := HB3.out.size; omega)
        have HAP := Lib.hid hrun
        have HON : Hid (wN.ownsRow w.heap.size 40 11 (.slice aN (l1 ++ [x]).length cN) (l1 ++ [x]).length (flat (l1 ++ [x]))) := by rw [show (l1 ++ [x]).length = l1.length + 1 from by simp]; exact hown
        have HLEN : Hid ((l1 ++ [x]).length = l1.length + 1) := by simp [Hid]
        have HOO : Hid (wN.ownsRow w.heap.size 40 11 (.slice a2 l2.length c2) l2.length (flat l2)) := own_same HP3.out fun g hg => hfr g (HP3.out.lt g hg).2 (by
          intro q hq
          cases a2 with
          | none => cases hg
          | some p => cases hg; exact HSP.out q p hq rfl)
        have HSN : Hid (∀ q p, aN = some q → a2 = some p → q.block ≠ p.block) := by
          intro q p hq hp
          have hpl : p.block < W3.heap.size := (HP3.out.lt p.block (by rw [hp]; rfl)).2
          rcases hwh q hq with ⟨p0, hp0, hpe⟩ | hge
          · rw [← hpe]; exact HSP.out p0 p hp0 hp
          · omega
        have HBN : Hid (Below w.heap.size w wN) := (HBel.out.trans (HB3.out.mono HBel.out.size)).trans hbN
        clear hrun hown hfr hwh hbN
        go_wp2_with (with_reducible refine hold_load 40 rfl ?_)
        refine load_ato (o + k * 11) HROW.out Try.underlying40 rfl size40 rfl rfl rfl ?_
        simp only [Ar.cells]
        go_wp2_with (at_builtin; rw [← hW3]; clear hW3; refine Lib.wpList_append_run _ rfl _ _ _ _ rfl _ _ rfl rfl _ _ HAP.out ?_)
        clear HAP
        go_wp2_with fail
        go_roundw
        case rel => exact ⟨k + 1, l1 ++ [x], l2, aN, cN, a2, c2, by omega, by rw [HLEN.out], rfl, by go_num, HE1, HE2, HON, HOO, HSN, HBN⟩
        case measure => simp [intOf]; omega
      · have hd : lateB now x = false := decide_eq_false hlate
        rw [if_neg (by rw [hd]; simp)] at hs1
        rw [if_pos (by rw [hd]; rfl)] at hs2
        have HE1 : Hid (l1 = (l.take (k + 1)).filter (lateB now)) := hs1.symm
        have HE2 : Hid (l2 ++ [x] = (l.take (k + 1)).filter (fun x => !lateB now x)) := hs2.symm
        clear hs1 hs2 hd
        have HO3 : Hid (W3.ownsRow w.heap.size 40 11 (.slice a2 l2.length c2) l2.length (flat l2)) := ownsRow_below HO2.out HB3.out
        have HP3 : Hid (W3.ownsRow w.heap.size 40 11 (.slice a1 l1.length c1) l1.length (flat l1)) := ownsRow_below HO1.out HB3.out
        obtain ⟨aN, cN, wN, hrun, hown, hfr, hwh, hbN⟩ := append_one W3 w.heap.size a2 c2 l2 x wr.heap.size HO3.out HV3.out (by have := HLE.out; omega) (by have := HBel.out.size; have := HB3.out.size; omega)
        have HAP := Lib.hid hrun
        have HON : Hid (wN.ownsRow w.heap.size 40 11 (.slice aN (l2 ++ [x]).length cN) (l2 ++ [x]).length (flat (l2 ++ [x]))) := by rw [show (l2 ++ [x]).length = l2.length + 1 from by simp]; exact hown
        have HLEN : Hid ((l2 ++ [x]).length = l2.length + 1) := by simp [Hid]
        have HOO : Hid (wN.ownsRow w.heap.size 40 11 (.slice a1 l1.length c1) l1.length (flat l1)) := own_same HP3.out fun g hg => hfr g (HP3.out.lt g hg).2 (by
          intro q hq
          cases a1 with
          | none => cases hg
          | some p => cases hg; exact fun e => HSP.out p q rfl hq e.symm)
        have HSN : Hid (∀ q p, a1 = some q → aN = some p → q.block ≠ p.block) := by
          intro q p hq hp
          have hql : q.block < W3.heap.size := (HP3.out.lt q.block (by rw [hq]; rfl)).2
          rcases hwh p hp with ⟨p0, hp0, hpe⟩ | hge
          · rw [← hpe]; exact HSP.out q p0 hq hp0
          · omega
        have HBN : Hid (Below w.heap.size w wN) := (HBel.out.trans (HB3.out.mono HBel.out.size)).trans hbN
        clear hrun hown hfr hwh hbN
        go_wp2_with (with_reducible refine hold_load 40 rfl ?_)
        refine load_ato (o + k * 11) HROW.out Try.underlying40 rfl size40 rfl rfl rfl ?_
        simp only [Ar.cells]
        go_wp2_with (at_builtin; rw [← hW3]; clear hW3; refine Lib.wpList_append_run _ rfl _ _ _ _ rfl _ _ rfl rfl _ _ HAP.out ?_)
        clear HAP
        go_wp2_with fail
        go_roundw
        case rel => exact ⟨k + 1, l1, l2 ++ [x], a1, c1, aN, cN, by omega, rfl, by rw [HLEN.out], by go_num, HE1, HE2, HOO, HON, HSN, HBN⟩
        case measure => simp [intOf]; omega
    · obtain rfl : k = l.length := by omega
      have hLt : l.take l.length = l := List.take_of_length_le (Nat.le_refl _)
      have HE1 : Hid (l1.map key = (l.map key).filter (lateB now)) := by
        rw [HF1.out, hLt]; exact filter_key _ (fun _ => rfl) l
      have HE2 : Hid (l2.map key = (l.map key).filter (fun x => !lateB now x)) := by
        rw [HF2.out, hLt]; exact filter_key _ (fun _ => rfl) l
      have HM1 : Hid (∀ x ∈ l1, MemOK wr x) := fun x hx => (HME.out x (by rw [HF1.out, hLt] at hx; exact (List.mem_filter.1 hx).1)).below HBel.out
      have HM2 : Hid (∀ x ∈ l2, MemOK wr x) := fun x hx => (HME.out x (by rw [HF2.out, hLt] at hx; exact (List.mem_filter.1 hx).1)).below HBel.out
      obtain ⟨b1, d1, e1, _, r1, _⟩ := ARow.ofOwn HO1.out
      obtain ⟨b2, d2, e2, _, r2, _⟩ := ARow.ofOwn HO2.out
      simp only [Value.slice.injEq] at e1 e2
      obtain ⟨rfl, _, rfl⟩ := e1
      obtain ⟨rfl, _, rfl⟩ := e2
      have HR1 := Lib.hid r1
      have HR2 := Lib.hid r2
      clear r1 r2 hLt HF1 HF2 HO1 HO2 HME
      go_wp2_with fail
      go_ret2
      exact ⟨_, _, l1, _, _, l2, rfl, HE1.out, HE2.out, HR1.out, HR2.out, HM1.out, HM2.out, HBel.out⟩
end Go.Proofs.Ythfjlojikbgnfaa
