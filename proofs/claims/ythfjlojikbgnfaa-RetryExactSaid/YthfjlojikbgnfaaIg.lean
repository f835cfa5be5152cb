/- slices.Insert at areas, ahead of an element, where there is no room. -/
import Derived.Test.YthfjlojikbgnfaaIm
namespace Go.Proofs.Ythfjlojikbgnfaa
open Go.ChangeShapes Go.WideShapes Go.ChangeAt Go.RowKit

theorem two_copies2 (A X C R : List Value) (i k : Nat) (hA : A.length = i * 11) (hX : X.length = 11) (hR : R.take (i * 11) = A) :
    (R.take (i * 11) ++ X ++ R.drop (i * 11 + X.length)).take ((i + 1) * 11) ++ C ++ (R.take (i * 11) ++ X ++ R.drop (i * 11 + X.length)).drop ((i + 1) * 11 + C.length) = A ++ X ++ C ++ (R.take (i * 11) ++ X ++ R.drop (i * 11 + X.length)).drop ((i + 1) * 11 + C.length) := by
  congr 2
  have h5 : (A ++ X).length = (i + 1) * 11 := by rw [List.length_append]; omega
  rw [hR, ← h5, List.take_left]
theorem zeros_size (n : Nat) : (Builtin.zeroCells (Value.agg #[.int .i64 0, .int .i64 0, .int .i64 0, .int .i64 0, .int .i64 0, .string ⟨#[]⟩, .bool false, .slice none 0 0, .int .i64 0, .int .i64 0, .int .i64 0]).cells n).size = n * 11 := by
  simp [Builtin.zeroCells, Value.cells]
set_option maxRecDepth 100000 in
set_option maxHeartbeats 4000000 in
theorem insert_grow (B g cap i vb : Nat) (l : List Ar) (x : Ar) (w : World) (ho : w.ownsRow B 40 11 (.slice (some ⟨g, 0, none⟩) l.length cap) l.length (flat l)) (hB : B ≤ w.heap.size) (hl : l.length ≤ 100) (hi : i < l.length) (hroom : cap = l.length) (hvl : vb < w.heap.size) (hv : w.rangeAt vb 0 x.cells) :
    Calls Try.prog 29 #[.slice (some ⟨g, 0, none⟩) l.length cap, .int .i64 i, .slice (some ⟨vb, 0, none⟩) 1 1] w (InsPost B (.slice (some ⟨g, 0, none⟩) l.length cap) l i x w) := by
  obtain ⟨i0, hinf, hz0, hz1, hz2⟩ := info_parts area_info
  have hsz : (Try.prog.info? 40).map (·.size) = some 11 := by rw [hinf]; simp [hz1]
  obtain ⟨_, ⟨hno, _⟩ | ⟨g', cap', cur, hge, hBg, hgg, _, hcm, hcs, htk⟩⟩ := ho
  · cases hno
  cases hge
  unfold maxLen at hcm
  subst hroom
  have hfl := flat_len l
  have hgw : g < w.heap.size := (Array.getElem?_eq_some_iff.1 hgg).1
  have hcl : cur.toList = flat l := by rw [← htk, List.take_of_length_le (by simp [hcs])]
  have hdl : (flat (l.drop i)).length = (l.length - i) * 11 := by rw [flat_len, List.length_drop]
  have hal : (flat (l.take i)).length = i * 11 := by rw [flat_len, List.length_take]; congr 1; omega
  have hcellw : ∀ j v, (flat l)[j]? = some v → w.cell? ⟨g, j, none⟩ = some v := by
    intro j v hj
    simp only [World.cell?, hgg]
    rw [← Array.getElem?_toList, hcl]
    exact hj
  have hx1 : ∀ v ∈ x.cells, v.oneCell' = true := oneC x
  have hf1 : ∀ v ∈ flat (l.drop i), v.oneCell' = true := cells_one
  have hold : (Builtin.firstCells i0.size i (.slice (some ⟨g, 0, none⟩) i l.length)).run Try.prog w.drew = .ok (flat (l.take i)).toArray w.drew := by
    rw [hz1]
    exact run_firstCells_some w.drew 11 i ⟨g, 0, none⟩ i l.length (flat (l.take i)) hal (fun j v hj => by
      rw [Addr.add_lit, Nat.zero_add]
      rw [← flat_take l i (by omega), List.getElem?_take] at hj
      split at hj
      · exact hcellw j v hj
      · cases hj)
  obtain ⟨G, hG⟩ : ∃ G, G = grownCap w (l.length + 1) l.length 40 := ⟨_, rfl⟩
  have hGn : l.length + 1 ≤ G := by rw [hG]; exact grownCap_ge w _ _ _
  have hG63 : G ≤ 9223372036854775807 := by
    have := grownCap_le_maxLen w (l.length + 1) l.length 40 (by unfold maxLen; omega)
    rw [← hG] at this
    unfold maxLen at this
    omega
  obtain ⟨cur0, hcur0⟩ : ∃ cur0 : Array Value, cur0 = (flat (l.take i)).toArray ++ Builtin.zeroCells (Value.agg #[.int .i64 0, .int .i64 0, .int .i64 0, .int .i64 0, .int .i64 0, .string ⟨#[]⟩, .bool false, .slice none 0 0, .int .i64 0, .int .i64 0, .int .i64 0]).cells (l.length + 1 - i) ++ Builtin.zeroCells (Value.agg #[.int .i64 0, .int .i64 0, .int .i64 0, .int .i64 0, .int .i64 0, .string ⟨#[]⟩, .bool false, .slice none 0 0, .int .i64 0, .int .i64 0, .int .i64 0]).cells (G - (l.length + 1)) := ⟨_, rfl⟩
  have hsz0 : cur0.size = G * 11 := by
    rw [hcur0, Array.size_append, Array.size_append, zeros_size, zeros_size]
    show (flat (l.take i)).length + _ + _ = _
    omega
  have hA0 : cur0.toList.take (i * 11) = flat (l.take i) := by
    rw [hcur0, Array.toList_append, Array.toList_append, List.append_assoc, ← hal]
    exact List.take_left
  obtain ⟨N, hN⟩ : ∃ N, N = w.heap.size := ⟨_, rfl⟩
  obtain ⟨W1, hW1⟩ : ∃ W1, W1 = w.drew.alloc (.cells cur0 40) := ⟨_, rfl⟩
  have hik : i + (l.length + 1 - i) = l.length + 1 := by omega
  have hkk : (l.length : Int) + 1 - (i : Int) = ((l.length + 1 - i : Nat) : Int) := by omega
  have hrz : ∀ ty, (Builtin.append_ #[34, 3] ty #[.slice (some ⟨g, 0, none⟩) i l.length, .int .i64 ((l.length : Int) + 1 - (i : Int))]).run Try.prog w = .ok (.slice (some ⟨N, 0, none⟩) (l.length + 1) G) W1 := fun ty => by
    have h := Lib.run_append_grow_zeros (P := Try.prog) w 34 3 ty 40 i0 _ .i64 .i64 Try.underlying34 Try.underlying3 hinf hz0 (some ⟨g, 0, none⟩) i l.length (flat (l.take i)) hold (l.length + 1 - i) (by omega) (by omega) (by omega) (by omega) (by rw [hz2]; omega) (by rw [hz2, hik]; exact growslice_fits (by omega) (by omega))
    rw [hik, ← hG, ← hcur0, ← hW1, ← hN] at h
    rw [hkk]
    exact h
  have hg1 : W1.heap[N]? = some (.cells cur0 40 (0, 0)) := by rw [hW1, hN]; exact heap_alloc_new w.drew _
  have hb1 : Below B w W1 := by rw [hW1]; exact (Below.drew (Below.refl _ _)).alloc hB _
  have hNg : ∀ k, k < w.heap.size → ∀ o, W1.cell? ⟨k, o, none⟩ = w.cell? ⟨k, o, none⟩ := fun k hk o => by
    rw [hW1]
    exact World.cell?_of_block (w := w) (a := ⟨k, o, none⟩) (heap_alloc_old w.drew _ hk)
  obtain ⟨cur1, hcur1⟩ : ∃ cur1 : Array Value, cur1 = (cur0.toList.take (i * 11) ++ x.cells ++ cur0.toList.drop (i * 11 + x.cells.length)).toArray := ⟨_, rfl⟩
  obtain ⟨cur2, hcur2⟩ : ∃ cur2 : Array Value, cur2 = (cur1.toList.take ((i + 1) * 11) ++ flat (l.drop i) ++ cur1.toList.drop ((i + 1) * 11 + (flat (l.drop i)).length)).toArray := ⟨_, rfl⟩
  have hc0n : cur0.toList.length = G * 11 := by simpa using hsz0
  have hsz1 : cur1.size = G * 11 := by
    have h6 := congrArg Array.size hcur1
    simp only [List.size_toArray, List.length_append, List.length_take, List.length_drop, hc0n] at h6
    have hx : x.cells.length = 11 := rfl
    omega
  have hfin : cur2.toList = flat (l.take i) ++ x.cells ++ flat (l.drop i) ++ cur1.toList.drop ((i + 1) * 11 + (flat (l.drop i)).length) := by
    rw [hcur2, hcur1]
    exact two_copies2 (flat (l.take i)) x.cells (flat (l.drop i)) cur0.toList i 0 hal rfl hA0
  have hc1n : cur1.toList.length = G * 11 := by simpa using hsz1
  have hsz2 : cur2.size = G * 11 := by
    have := congrArg List.length hfin
    simp only [List.length_append, List.length_drop, hc1n, hdl, hal] at this
    have hx : x.cells.length = 11 := rfl
    have h5 : cur2.toList.length = cur2.size := by simp
    omega
  obtain ⟨W2, hW2⟩ : ∃ W2 : World, W2 = W1.setRow N cur1 := ⟨_, rfl⟩
  obtain ⟨W3, hW3⟩ : ∃ W3 : World, W3 = W2.drew.setRow N cur2 := ⟨_, rfl⟩
  have hg2 : W2.heap[N]? = some (.cells cur1 40 (0, 0)) := by rw [hW2]; exact setRow_heap _ N _ _ _ _ hg1
  have hg3 : W3.heap[N]? = some (.cells cur2 40 (0, 0)) := by rw [hW3]; exact setRow_heap _ N _ _ _ _ hg2
  have hBN : B ≤ N := by rw [hN]; exact hB
  have hb2 : Below B w W2 := by rw [hW2]; exact below_setRow hb1 hBN _
  have hb3 : Below B w W3 := by rw [hW3]; exact below_setRow (Below.drew hb2) hBN _
  have HP : Hid (InsPost B (.slice (some ⟨g, 0, none⟩) l.length l.length) l i x w (.returned (.slice (some ⟨N, 0, none⟩) (l.length + 1) G)) W3) := by
    refine ⟨_, _, rfl, ⟨?_, Or.inr ⟨N, G, cur2, rfl, hBN, hg3, hGn, by unfold maxLen; omega, hsz2, ?_⟩⟩, fun k hk _ => ?_, hb3⟩
    · rw [flat_len]; simp [insAt]; omega
    · rw [flat_insAt, hfin, List.take_left' ?_]
      simp only [List.length_append, hdl, hal]
      have hx : x.cells.length = 11 := rfl
      omega
    · have hkN : k ≠ N := by omega
      rw [hW3, setRow_other _ N k _ hkN]
      show W2.heap[k]? = _
      rw [hW2, setRow_other _ N k _ hkN, hW1]
      exact heap_alloc_old w.drew _ hk
  have hvc : ∀ j v, x.cells[j]? = some v → W1.cell? ((⟨vb, 0, none⟩ : Addr).add j) = some v := by
    intro j v hj
    rw [Addr.add_lit, hNg vb hvl]
    exact hv j v hj
  have hgN : g ≠ N := by omega
  have hsc : ∀ j v, (flat (l.drop i))[j]? = some v → W2.drew.cell? ((⟨g, i * 11, none⟩ : Addr).add j) = some v := by
    intro j v hj
    rw [Addr.add_lit]
    have hco : W2.drew.cell? ⟨g, i * 11 + j, none⟩ = W1.cell? ⟨g, i * 11 + j, none⟩ := by
      rw [hW2]
      exact World.cell?_of_block (w := W1) (a := ⟨g, i * 11 + j, none⟩) (setRow_other _ N g _ hgN)
    rw [hco, hNg g hgw]
    rw [← flat_drop l i (by omega), List.getElem?_drop] at hj
    exact hcellw _ v hj
  have hcp1 : ∀ ty dc, (Builtin.copy_ #[34, 34] ty #[.slice (some ⟨N, i * 11, none⟩) (l.length + 1 - i) dc, .slice (some ⟨vb, 0, none⟩) 1 1]).run Try.prog W1 = .ok (goInt 1) W2 := fun ty dc => by
    rw [hW2, hcur1]
    exact run_copy_sz Try.prog W1 34 34 ty 40 11 N (i * 11) _ dc ⟨vb, 0, none⟩ 1 1 cur0 40 x.cells Try.underlying34 hsz hg1 1 (by simp only [Nat.min_def]; split <;> omega) rfl hvc (by rw [hsz0]; show i * 11 + 11 ≤ _; omega) hx1
  have hcp2 : ∀ ty dc sc, (Builtin.copy_ #[34, 34] ty #[.slice (some ⟨N, (i + 1) * 11, none⟩) (l.length - i) dc, .slice (some ⟨g, i * 11, none⟩) (l.length - i) sc]).run Try.prog W2.drew = .ok (goInt ((l.length - i : Nat) : Int)) W3 := fun ty dc sc => by
    rw [hW3, hcur2]
    exact run_copy_sz Try.prog W2.drew 34 34 ty 40 11 N ((i + 1) * 11) _ dc ⟨g, i * 11, none⟩ _ sc cur1 40 (flat (l.drop i)) Try.underlying34 hsz hg2 (l.length - i) (by simp only [Nat.min_def]; split <;> omega) hdl hsc (by rw [hdl, hsz1]; omega) hf1
  have hz2 : ¬ ((i : Int) = (l.length : Int)) := by omega
  have hw1 : IntKind.i64.wrap ((i : Int) + 1) = (i : Int) + 1 := IntWalk.i64_in _ (by omega)
  have hil : (i : Int) < (l.length : Int) := by omega
  have HC2 := Lib.hid hcp2
  clear hcp2 hsc hvc hx1 hf1 hW1 hW2 hW3 hcur0 hcur1 hcur2 hfin hsz0 hsz1 hsz2 hg1 hg2 hg3 hb1 hb2 hb3 hdl hcl htk hgg hv hcs hfl hold hA0 hc0n hc1n hNg hcellw hN hG hBN hkk hik hal
  generalize l.length = n at *
  have hb3 : (i : Int) ≤ (n : Int) + 1 := by omega
  have hcap2 : (i : Int) + 1 ≤ (n : Int) + 1 := by omega
  have mixed : Try.prog.follows Departure.mixedOrders = true := by kernel_rfl
  have hb1 : (0 : Int) ≤ (i : Int) + 1 := by omega
  have htn : ((i : Int) + 1).toNat = i + 1 := by omega
  have hb2 : ¬ (G = i + 1) := by omega
  have hb4 : ¬ (G = i) := by omega
  have hb6 : ¬ (n = i) := by omega
  have hb5 : i ≤ n := by omega
  have hn3 : (n : Int) < (n : Int) + 1 := by omega
  go_enter Try.func29, Try.ntmps29
  go_wp2_with (at_builtin; refine Lib.wpList_append_run _ rfl _ _ _ _ rfl _ _ rfl rfl _ _ (hrz _) ?_)

  go_region_law_o (refine step_copy_runI rfl _ _ 34 34 rfl (.slice (some ⟨N, (i + 1) * 11, none⟩) (n - i) (G - (i + 1))) (.slice (some ⟨g, i * 11, none⟩) (n - i) (n - i)) (by simp [Act.eval, Act.put]) (by simp [Act.eval, Act.put]) (HC2.out 3 (G - (i + 1)) (n - i)) ?_)
  go_wp2_with fail
  go_ret
  exact HP.out
end Go.Proofs.Ythfjlojikbgnfaa
