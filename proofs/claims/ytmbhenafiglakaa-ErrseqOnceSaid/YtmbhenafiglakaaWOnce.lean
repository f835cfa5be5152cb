/- The walk of ErrseqOnce. -/
import Derived.Test.YtmbhenafiglakaaOnceInv
import Derived.Test.YtmbhenafiglakaaAwake
import Derived.Deep.RegionHeld3
import Derived.Maps.AppendAt
namespace Go.Proofs.Ytmbhenafiglakaa
open Go.ChangeShapes Go.WideShapes Go.ChangeAt Go.RowKit

theorem own_row {w : World} {base s n : Nat} {e : TypeId} {v : Value} {xs : List Value} (h : w.ownsRow base e s v n xs) : ∀ k, v.ownBlock = some k → base ≤ k := by
  intro k hk
  rcases h.2 with ⟨rfl, _⟩ | ⟨g, c, cur, rfl, hb, _⟩
  · simp [Value.ownBlock] at hk
  · simp [Value.ownBlock] at hk; omega
theorem Below.lt_of_own {w : World} {base s n c m : Nat} {e : TypeId} {g : Nat} {xs : List Value} (h : w.ownsRow base e s (.slice (some ⟨g, 0, none⟩) n c) m xs) : g < w.heap.size := by
  rcases h.2 with ⟨h1, _⟩ | ⟨g', c', cur, h1, _, h2, _⟩
  · cases h1
  · simp only [Value.slice.injEq, Option.some.injEq, Addr.mk.injEq] at h1
    obtain ⟨⟨rfl, _⟩, _⟩ := h1
    exact (Array.getElem?_eq_some_iff.1 h2).1
theorem own_cell' {w : World} {base : Nat} {e : TypeId} {g : Nat} {n m c : Nat} {xs : List Int} (h : w.ownsRow base e 1 (.slice (some ⟨g, 0, none⟩) n c) m (xs.map (Value.int .i64))) (k : Nat) (hk : k < xs.length) :
    w.cell? ⟨g, k, none⟩ = some (.int .i64 (xs.getD k 0)) ∧ w.frozen? ⟨g, k, none⟩ = false := by
  obtain rfl : n = m := by
    rcases h.2 with ⟨h1, _⟩ | ⟨g', c', cur, h1, _⟩
    · cases h1
    · simp only [Value.slice.injEq] at h1; exact h1.2.1
  refine ⟨?_, h.frozenAt k⟩
  have hm : (xs.map (Value.int .i64)).length = n * 1 := h.1
  have hm2 : xs.length = n := by simpa using hm
  rw [h.cellAt k (by omega)]
  simp [List.getD, List.getElem?_map, List.getElem?_eq_getElem hk]
theorem mem_getD {l : List Int} {i : Nat} (h : i < l.length) : l.getD i 0 ∈ l := by
  simp only [List.getD, List.getElem?_eq_getElem h, Option.getD_some]; exact List.getElem_mem h
theorem look_once {C E u : Int} (h0 : 0 ≤ C) (h1 : C ≤ 60) (he : C = 0 ↔ E = 0) (u0 : 0 ≤ u) (u1 : u ≤ C) :
    lookS C E u = (if u = C then 0 else E, C) ∧ (((if u = C then 0 else E) = 0 ∧ penB C E u = false) ∨ ((if u = C then 0 else E) ≠ 0 ∧ penB C E u = true)) := by
  have hw := wellB_of (right_once h0 h1 he) u0 u1
  unfold lookS penB
  rw [hw]
  by_cases hc : u = C
  · subst hc; simp
  · have : E ≠ 0 := fun e => by have := he.2 e; omega
    have h3 : u < C := by omega
    simp [hc, this, h3]
section
variable {w wr w' : World} {a : Option Addr} {len cap : Nat} {C E : Int} {cs ws : List Int} {v5 v6 : Value}
theorem OInv.push5 (h : OInv w a len cap C E cs ws v5 v6 wr) {v : Value} {news : List Value} (x : Int) (hn : news = [.int .i64 x]) (x0 : 0 ≤ x) (x1 : x ≤ C) (hg : wr.grownBy w' v5.ownBlock) (ho : w'.ownsRow (w.heap.size + 2) 3 1 v (cs.length + 1) (cs.map (Value.int .i64) ++ news)) :
    OInv w a len cap C E (cs ++ [x]) ws v v6 w' := by
  subst hn
  have hb : Below (w.heap.size + 2) wr w' := (Below.refl _ _).grown hg (by have := h.hz; omega) (own_row h.own5)
  obtain ⟨k, ht⟩ := h.tape
  refine ⟨⟨k, ht.below hb (by omega)⟩, h.c0, h.ce, (hb.cell (p := ⟨_, 0, none⟩) (by simp)).trans h.e0, (hb.cell (p := ⟨_, 1, none⟩) (by simp)).trans h.e1, (hb.frozen (p := ⟨_, 0, none⟩) (by simp)).trans h.f0, (hb.frozen (p := ⟨_, 1, none⟩) (by simp)).trans h.f1, Nat.lt_of_lt_of_le h.hz hb.size, ?_, ?_, ?_, ?_⟩
  · intro y hy
    rcases List.mem_append.1 hy with h1 | h1
    · exact h.lo y h1
    · simp at h1; omega
  · intro y hy
    rcases List.mem_append.1 hy with h1 | h1
    · exact h.hi y h1
    · simp at h1; omega
  · simpa using ho
  · exact h.own6.kept hg (own_apart h.own6 h.own5 (by decide))
theorem OInv.push6 (h : OInv w a len cap C E cs ws v5 v6 wr) {v : Value} {news : List Value} (x : Int) (hn : news = [.int .i64 x]) (hg : wr.grownBy w' v6.ownBlock) (ho : w'.ownsRow (w.heap.size + 2) 22 1 v (ws.length + 1) (ws.map (Value.int .i64) ++ news)) :
    OInv w a len cap C E cs (ws ++ [x]) v5 v w' := by
  subst hn
  have hb : Below (w.heap.size + 2) wr w' := (Below.refl _ _).grown hg (by have := h.hz; omega) (own_row h.own6)
  obtain ⟨k, ht⟩ := h.tape
  refine ⟨⟨k, ht.below hb (by omega)⟩, h.c0, h.ce, (hb.cell (p := ⟨_, 0, none⟩) (by simp)).trans h.e0, (hb.cell (p := ⟨_, 1, none⟩) (by simp)).trans h.e1, (hb.frozen (p := ⟨_, 0, none⟩) (by simp)).trans h.f0, (hb.frozen (p := ⟨_, 1, none⟩) (by simp)).trans h.f1, Nat.lt_of_lt_of_le h.hz hb.size, h.lo, h.hi, ?_, ?_⟩
  · exact h.own5.kept hg (own_apart h.own5 h.own6 (by decide))
  · simpa using ho
end

set_option maxRecDepth 100000 in
set_option maxHeartbeats 8000000 in
theorem once_walk (a : Option Addr) (len cap : Nat) (w : World) (ha : ArgRow w a len) (hl : len ≤ maxLen) :
    Calls Try.prog 4 #[.slice a len cap] w (RetW (.bool true) w) := by
  obtain ⟨i3, hi3, hz30, hz31, hz32⟩ := info_parts info3
  obtain ⟨i22, hi22, hz220, hz221, hz222⟩ := info_parts info22
  go_enter Try.func4, Try.ntmps4
  go_wp2_with fail
  go_loopw [5, 6, 7] (fun v5 v6 v7 wr => ∃ (n : Nat) (C E : Int) (cs : List Int), v7 = .int .i64 n ∧ n ≤ 60 ∧ C ≤ n ∧ cs.length ≤ n ∧ OInv w a len cap C E cs (wsOf C E cs) v5 v6 wr) (fun _ _ i _ => 60 - (intOf i).toNat)
  case atStart =>
    obtain ⟨b1, b2, b3, b4, b5, b6, b7, b8, b9⟩ := begun w (.slice a len cap) (.int .i64 0) (.int .i64 0) (.int .i64 0) 37 25 (.cells #[] 3) (.cells #[] 22) _ rfl
    refine ⟨0, 0, 0, [], rfl, by omega, by simp, by simp, ⟨⟨0, ha, Nat.le_refl _, by omega, b1, b3, b4, b5, Nat.zero_le _, hl⟩, by omega, by omega, b6, b7, b8, b9, by omega, by simp, by simp, ?_, ?_⟩⟩
    · refine World.ownsRow.alloc ?_ _
      have := World.ownsRow_lit (base := w.heap.size + 2) (e := 3) (size := 1) ((w.alloc (.cells #[.slice a len cap, .int .i64 0] 37)).alloc (.cells #[.int .i64 0, .int .i64 0] 25)) #[] 0 (by simp) (by simp) rfl
      simpa using this
    · have := World.ownsRow_lit (base := w.heap.size + 2) (e := 22) (size := 1) (((w.alloc (.cells #[.slice a len cap, .int .i64 0] 37)).alloc (.cells #[.int .i64 0, .int .i64 0] 25)).alloc (.cells #[] 3)) #[] 0 (by first | (simp; done) | (simp; omega)) (by simp) rfl
      simpa [wsOf] using this
  case round =>
    obtain ⟨n, C, E, cs, rfl, hn60, hcn, hln, hinv⟩ := hrel
    obtain ⟨k, ht⟩ := hinv.tape
    by_cases hn : n < 60
    · by_cases hend : len ≤ k
      · have hend' : (decide (len ≤ k)) = true := by simpa using hend
        go_wp2_with (go_at_call 15; refine (end_any _ _ _ _ _ _ _ ht).mono ?_; rintro e w' ⟨q, rfl, rfl⟩)
        refine (awake_any _).mono ?_; rintro e w9 ⟨rfl, hb9⟩
        go_wp2_with fail
        go_ret
        exact RetW.mk rfl ((below_drewN ht.bel q).trans (hb9.mono ht.bel.size))
      · have hend' : (decide (len ≤ k)) = false := by simpa using hend
        go_wp2_with (go_at_call 15; refine (end_any _ _ _ _ _ _ _ ht).mono ?_; rintro e w' ⟨q, rfl, rfl⟩)
        have hinv1 := hinv.drewN q
        have ht1 : TapeAt w (wr.drewN q) w.heap.size a len cap k := ht.below (below_drewN (Below.refl wr.heap.size wr) q) ht.hi
        generalize wr.drewN q = wr1 at hinv1 ht1 ⊢
        refine (next_any 3 _ _ _ _ _ _ _ (by omega) (by omega) ht1).mono ?_
        rintro e w2 ⟨r, hr0, hr1, rfl, htk, ht2⟩
        have hinv2 := hinv1.tick htk ht2
        clear hinv hinv1 ht1 htk ht2 hend hend' ht
        have hr : r = 0 ∨ r = 1 ∨ r = 2 := by omega
        rcases hr with rfl | rfl | rfl
        · go_wp2_with fail
          obtain ⟨k, ht⟩ := hinv2.tape
          refine (next_any 2 _ _ _ _ _ _ _ (by omega) (by omega) ht).mono ?_
          rintro e w3 ⟨r, hr0, hr1, rfl, htk, ht3⟩
          have hinv3 := hinv2.tick htk ht3
          clear hinv2 ht htk ht3
          have hrec := rec_once (r := r) hinv3.c0 (by omega) hinv3.ce hr0
          have e0 := hinv3.e0; have e1 := hinv3.e1
          have hwr : IntKind.i64.wrap (10 + r) = 10 + r := IntWalk.i64_in _ (by omega)
          go_wp2_with fail
          refine (record_any _ _ _ _).mono ?_; rintro e w4 ⟨rfl, hb4⟩
          have hinv4 := hinv3.below hb4
          clear e0 e1 hb4 hinv3
          have e0 := hinv4.e0; have e1 := hinv4.e1; have f0 := hinv4.f0; have f1 := hinv4.f1; have hz := hinv4.hz
          have hr2 : r = 0 ∨ r = 1 := by omega
          rw [hrec]
          have HREC := Lib.hid hrec; clear hrec
          go_wp2_with fail
          have hinv5 := (hinv4.setE (C' := C + 1) (E' := 10 + r) (by omega) (by have := hinv4.c0; omega)).below ((Below.refl _ _).alloc (Nat.le_refl _) (.cells #[.int .i64 (C + 1), .int .i64 (10 + r)] 25))
          have HWSR : Hid (wsOf (C + 1) (10 + r) cs = List.replicate cs.length (10 + r)) := Lib.hid (wsOf_rec hinv4.hi)
          have HWSL : (wsOf C E cs).length = cs.length := wsOf_len C E cs
          clear e0 e1 f0 f1 hz hinv4
          generalize wsOf C E cs = ws at hinv5 HWSL
          obtain ⟨a6, c6, rfl⟩ := own_slice hinv5.own6
          rw [← HWSL] at HWSR hln
          have hbr : (10 : Int) ≤ 10 + r := by omega
          generalize 10 + r = y at *
          generalize ((w4.setCell ⟨w.heap.size + 1, 0, none⟩ (Value.int IntKind.i64 (C + 1))).setCell ⟨w.heap.size + 1, 1, none⟩ (Value.int IntKind.i64 y)).alloc (Obj.cells #[Value.int IntKind.i64 (C + 1), Value.int IntKind.i64 y] 25) = w5 at hinv5 ⊢
          clear hr0 hr1 hr2 HREC hwr
          go_loopw [11] (fun v11 wq => ∃ j : Nat, j ≤ ws.length ∧ v11 = .int .i64 j ∧ OInv w a len cap (C + 1) y cs (List.replicate j y ++ ws.drop j) u5 (.slice a6 ws.length c6) wq) (fun i _ => ws.length - (intOf i).toNat)
          case atStart => exact ⟨0, by omega, rfl, by simpa using hinv5⟩
          case round =>
            obtain ⟨j, hj, rfl, hinv6⟩ := hrel
            by_cases hlt : j < ws.length
            · have hl6 : (List.replicate j y ++ ws.drop j).length = ws.length := by simp; omega
              obtain ⟨g, rfl, _, hg, k0, k1⟩ := own_cell (xs := List.replicate j y ++ ws.drop j) hinv6.own6 j (by omega)
              have hset := Lib.hid (hinv6.set6 hg (by rw [hl6]) j y)
              have HST := Lib.hid (fill_step y ws j hlt)
              have hjl : (j : Int) < (ws.length : Int) := by omega
              clear hinv6 hinv5 hl6
              go_wp2_with fail
              go_roundw
              case rel => exact ⟨j + 1, by omega, by go_num, by rw [← HST.out]; exact hset.out⟩
              case measure => simp [intOf]; omega
            · obtain rfl : j = ws.length := by omega
              rw [fill_done, ← HWSR.out] at hinv6
              go_wp2_with fail
              go_roundw
              case rel => exact ⟨n + 1, C + 1, y, cs, by go_num, by omega, by omega, by omega, hinv6⟩
              case measure => simp [intOf]; omega
        · have e0 := hinv2.e0; have e1 := hinv2.e1
          have hsam : samS C E = C := by unfold samS; rw [if_pos (right_once hinv2.c0 (by omega) hinv2.ce)]
          go_wp2_with fail
          refine (sample_any _ _ _).mono ?_; rintro e w4 ⟨rfl, hb4⟩
          have hinv4 := hinv2.below hb4
          clear e0 e1 hb4 hinv2
          rw [hsam]
          have hz := hinv4.hz
          have hwl := wsOf_len C E cs
          have hinv5 := hinv4.below ((Below.refl _ _).alloc (Nat.le_refl _) (.cells #[.int .i64 C] 3))
          have HS := Lib.hid hsam; clear hsam
          go_wp2_with (at_builtin; refine wpList_append_own _ rfl _ _ 34 rfl (w.heap.size + 2) 3 i3 (.int .i64 0) 1 8 Try.underlying34 hi3 hz30 hz31 hz32 rfl (by decide) _ _ _ rfl hinv5.own5 ⟨w4.heap.size, 0, none⟩ 1 1 [.int .i64 C] rfl rfl ?c1 ?c2 ?c3 ?c4 ?c5 ?_)
          case c1 => exact cell_one_new _ _ _
          case c2 => intro u hu; simp at hu; subst hu; rfl
          case c3 => unfold maxLen; omega
          case c4 => omega
          case c5 => simp; omega
          intro v5' w6 hown5 hgrow _
          have hinv6 := hinv5.push5 C rfl hinv5.c0 (Int.le_refl _) hgrow hown5
          clear hinv4 hinv5 hown5 hgrow
          have hz6 := hinv6.hz
          have hinv7 := hinv6.below ((Below.refl _ _).alloc (Nat.le_refl _) (.cells #[.int .i64 0] 22))
          go_wp2_with (at_builtin; refine wpList_append_own _ rfl _ _ 38 rfl (w.heap.size + 2) 22 i22 (.int .i64 0) 1 8 Try.underlying38 hi22 hz220 hz221 hz222 rfl (by decide) _ _ _ rfl hinv7.own6 ⟨w6.heap.size, 0, none⟩ 1 1 [.int .i64 0] rfl rfl ?c1 ?c2 ?c3 ?c4 ?c5 ?_)
          case c1 => exact cell_one_new _ _ _
          case c2 => intro u hu; simp at hu; subst hu; rfl
          case c3 => unfold maxLen; omega
          case c4 => omega
          case c5 => simp; omega
          intro v6' w8 hown6 hgrow _
          rw [← hwl] at hown6
          have hinv8 := hinv7.push6 0 rfl hgrow hown6
          rw [← wsOf_add] at hinv8
          clear hinv6 hinv7 hown6 hgrow
          go_wp2_with fail
          go_roundw
          case rel => exact ⟨n + 1, C, E, cs ++ [C], by go_num, by omega, by omega, by simp; omega, hinv8⟩
          case measure => simp [intOf]; omega
        · have hpos : cs = [] ∨ 0 < cs.length := by
            cases cs
            · exact Or.inl rfl
            · right; simp
          rcases hpos with rfl | hp
          · obtain ⟨a5, c5, rfl⟩ := own_slice hinv2.own5
            go_wp2_with fail
            go_roundw
            case rel => exact ⟨n + 1, C, E, [], by go_num, by omega, by omega, by simp, hinv2⟩
            case measure => simp [intOf]; omega
          · obtain ⟨a5, c5, rfl⟩ := own_slice hinv2.own5
            obtain ⟨k, ht⟩ := hinv2.tape
            go_wp2_with fail
            refine (next_any (cs.length : Int) _ _ _ _ _ _ _ (by omega) (by omega) ht).mono ?_
            rintro e w3 ⟨r, hr0, hr1, rfl, htk, ht3⟩
            have hinv3 := hinv2.tick htk ht3
            clear hinv2 ht htk ht3
            obtain ⟨i, rfl⟩ := Int.eq_ofNat_of_zero_le hr0
            have hil : i < cs.length := by omega
            have hwl := wsOf_len C E cs
            obtain ⟨a6, c6, rfl⟩ := own_slice hinv3.own6
            obtain ⟨g5, rfl, _, hg5, k50, k51⟩ := own_cell hinv3.own5 i hil
            obtain ⟨g6, rfl, _, hg6, k60, k61⟩ := own_cell hinv3.own6 i (by omega)
            have hl5 := Below.lt_of_own hinv3.own5
            have hl6 := Below.lt_of_own hinv3.own6
            have e0 := hinv3.e0; have e1 := hinv3.e1; have hz := hinv3.hz
            rw [wsOf_getD C E cs i hil] at k60
            have hfac := look_once hinv3.c0 (by omega) hinv3.ce (u := cs.getD i 0) (hinv3.lo _ (mem_getD hil)) (hinv3.hi _ (mem_getD hil))
            generalize hcc : cs.getD i 0 = c at k50 k60 hfac
            have hwg := wsOf_getD C E cs i hil
            rw [hcc] at hwg
            generalize (if c = C then 0 else E) = W at k60 hfac hwg
            have Hc := Lib.hid hcc
            have HWc := Lib.hid hwg
            clear hcc hwg
            rw [hwl] at hinv3 ⊢
            obtain ⟨hlook, hpen⟩ := hfac
            have HL := Lib.hid hlook
            have HI := Lib.hid hinv3
            have HW := Lib.hid hwl
            have hij : (i : Int) < (cs.length : Int) := by omega
            clear hlook hwl hinv3
            rcases hpen with ⟨hW, hpen⟩ | ⟨hW, hpen⟩
            rotate_left 1
            have hWb : (W != 0) = true := by simpa using hW
            rotate_left 1
            all_goals
              go_wp2_with fail
              go_region_held3 (fun w' => w'.cell? ⟨w.heap.size + 1, 0, none⟩ = some (.int .i64 C) ∧ w'.cell? ⟨w.heap.size + 1, 1, none⟩ = some (.int .i64 E) ∧ w'.cell? ⟨g5, i, none⟩ = some (.int .i64 c) ∧ w'.cell? ⟨g6, i, none⟩ = some (.int .i64 W)) (go_keep) (first | (go_at_call 12; refine (pending_any _ _ _ _).mono ?_; rintro e w' ⟨rfl, hb⟩; rw [hpen]; have l0 := hb.cell (p := ⟨w.heap.size + 1, 0, none⟩) hz; have l1 := hb.cell (p := ⟨w.heap.size + 1, 1, none⟩) hz; have l2 := hb.cell (p := ⟨g5, i, none⟩) hl5; have l3 := hb.cell (p := ⟨g6, i, none⟩) hl6))
              have hinv4 := HI.out.below ((Below.drew (Below.refl w3.heap.size w3)).trans hb)
              clear l0 l1 l2 l3 e0 e1 k50 k60 hl5 hl6 k51 k61 hz hb hpen
              have hl5 := Below.lt_of_own hinv4.own5
              have hl6 := Below.lt_of_own hinv4.own6
              have e0 := hinv4.e0; have e1 := hinv4.e1; have hz := hinv4.hz
              obtain ⟨k50, k51⟩ := own_cell' hinv4.own5 i hil
              obtain ⟨k60, k61⟩ := own_cell' hinv4.own6 i (by have := HW.out; omega)
              have HI2 := Lib.hid hinv4
              rw [Hc.out] at k50
              rw [HWc.out] at k60
              clear hinv4
              go_wp2_with fail
              go_region_held3 (fun w' => w'.cell? ⟨w.heap.size + 1, 0, none⟩ = some (.int .i64 C) ∧ w'.cell? ⟨w.heap.size + 1, 1, none⟩ = some (.int .i64 E) ∧ w'.cell? ⟨g5, i, none⟩ = some (.int .i64 c)) (go_keep) (first | (go_at_call 8; refine (check_any _ _ _ _).mono ?_; rintro e w7 ⟨rfl, hb⟩; rw [HL.out]; have l0 := hb.cell (p := ⟨w.heap.size + 1, 0, none⟩) hz; have l1 := hb.cell (p := ⟨w.heap.size + 1, 1, none⟩) hz; have l2 := hb.cell (p := ⟨g5, i, none⟩) hl5))
              have hinv4 := HI2.out.below ((Below.drew (Below.refl w'.heap.size w')).trans hb)
              clear l0 l1 l2 e0 e1 k50 k60 hl5 hl6 k51 k61 hz hb
              obtain ⟨k50, k51⟩ := own_cell' hinv4.own5 i hil
              obtain ⟨k60, k61⟩ := own_cell' hinv4.own6 i (by have := HW.out; omega)
              rw [Hc.out] at k50
              rw [HWc.out] at k60
              have hg56 : g5 ≠ g6 := by
                rcases own_apart hinv4.own5 hinv4.own6 (by decide) with h | h
                · simp [Value.ownBlock] at h
                · intro e; subst e; exact h rfl
              have HS5 := Lib.hid (hinv4.set5 hg5 rfl i C hinv4.c0 (Int.le_refl _))
              clear hinv4
              go_wp2_with fail
              go_roundw
              case rel =>
                have HS6 := HS5.out.set6 hg6 HW.out.symm i 0
                rw [← wsOf_set] at HS6
                exact ⟨n + 1, C, E, cs.set i C, by go_num, by omega, by omega, by simp; omega, HS6⟩
              case measure => simp [intOf]; omega
    · have hn' : (60 : Int) ≤ (n : Int) := by omega
      go_wp2_with fail
      refine (awake_any _).mono ?_; rintro e w9 ⟨rfl, hb9⟩
      go_wp2_with fail
      go_ret
      exact RetW.mk rfl (ht.bel.trans (hb9.mono ht.bel.size))
end Go.Proofs.Ytmbhenafiglakaa
