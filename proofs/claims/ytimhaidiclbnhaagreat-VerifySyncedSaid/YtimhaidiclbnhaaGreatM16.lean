/- Layer 46, shared texts of this seat, part 16. -/
import Derived.Shelf.Spec.SlicesInsertGrow
import Derived.Laws.CopyOwn
import Derived.Test.YtimhaidiclbnhaaGreatM15
/- slices.Insert at areas, ahead of an element. -/
set_option linter.unusedSimpArgs false
set_option linter.unusedVariables false
set_option maxRecDepth 100000
namespace Go.Proofs.YtimhaidiclbnhaaGreat.Ara
open Go.ChangeShapes Go.WideShapes Go.ChangeAt Go.RowKit

/-- copy at elements of sz cells each -/
theorem run_copy_sz (P : Program) (w : World) (dT sT ty elem : TypeId) (sz g o dLen dCap : Nat) (a : Addr) (sLen sCap : Nat) (cur : Array Value) (t : TypeId) (cs : List Value)
    (hu : P.underlying dT = some (.slice elem)) (hs : (P.info? elem).map (·.size) = some sz)
    (hg : w.heap[g]? = some (.cells cur t (0, 0))) (m : Nat) (hm : Nat.min sLen dLen = m) (hn : cs.length = m * sz)
    (hsrc : ∀ j v, cs[j]? = some v → w.cell? (a.add j) = some v) (hfit : o + cs.length ≤ cur.size) (h1 : ∀ v ∈ cs, v.oneCell' = true) :
    (Builtin.copy_ #[dT, sT] ty #[.slice (some ⟨g, o, none⟩) dLen dCap, .slice (some a) sLen sCap]).run P w =
      .ok (goInt m) (w.setRow g (cur.toList.take o ++ cs ++ cur.toList.drop (o + cs.length)).toArray) := by
  have hl := run_loadCells_list (P := P) w a cs hsrc
  have hst := run_storeCells_at P g o t cs 0 cur w hg (by simpa using hfit) h1
  cases hq : P.info? elem with
  | none => simp [hq] at hs
  | some i =>
    have hi : i.size = sz := by simpa [hq] using hs
    simp [Builtin.copy_, run_underlying hu, Builtin.lenOf, Builtin.firstCells, sizeOf, typeInfo, hq, hi, hm, ← hn, hl, hst]

theorem flat_take (l : List Ar) (i : Nat) (hi : i ≤ l.length) : (flat l).take (i * 5) = flat (l.take i) := by
  have h : flat l = flat (l.take i) ++ flat (l.drop i) := by rw [← flat_append, List.take_append_drop]
  have h2 : (flat (l.take i)).length = i * 5 := by rw [flat_len, List.length_take]; congr 1; omega
  rw [h, ← h2, List.take_left]
theorem flat_drop (l : List Ar) (i : Nat) (hi : i ≤ l.length) : (flat l).drop (i * 5) = flat (l.drop i) := by
  have h : flat l = flat (l.take i) ++ flat (l.drop i) := by rw [← flat_append, List.take_append_drop]
  have h2 : (flat (l.take i)).length = i * 5 := by rw [flat_len, List.length_take]; congr 1; omega
  rw [h, ← h2, List.drop_left]
theorem flat_insAt (l : List Ar) (i : Nat) (x : Ar) : flat (insAt l i x) = flat (l.take i) ++ x.cells ++ flat (l.drop i) := by
  unfold insAt
  rw [flat_append, show x :: l.drop i = [x] ++ l.drop i from rfl, flat_append, flat_one, List.append_assoc]
/-- block vb is a plain row of one area -/
def Shp (W : World) (vb : Nat) : Prop := W.shape? vb = some (139, 5) ∧ ∀ o, W.frozen? ⟨vb, o, none⟩ = false
/-- two copies into a row: first what stands from i on, one place up, then one area -/
theorem two_copies (A C D X : List Value) (i k : Nat) (hA : A.length = i * 5) (hX : X.length = 5) (hC : C.length = k * 5) (R : List Value) (hR : A ++ D = R) (hD : k * 5 + 5 ≤ D.length) :
    (R.take ((i + 1) * 5) ++ C ++ R.drop ((i + 1) * 5 + C.length)).take (i * 5) ++ X ++ (R.take ((i + 1) * 5) ++ C ++ R.drop ((i + 1) * 5 + C.length)).drop (i * 5 + X.length) = A ++ X ++ C ++ D.drop (k * 5 + 5) := by
  subst hR
  have h1 : (A ++ D).take ((i + 1) * 5) = A ++ D.take 5 := by
    rw [List.take_append, List.take_of_length_le (by omega)]
    congr 2
    omega
  have h2 : (A ++ D).drop ((i + 1) * 5 + C.length) = D.drop (k * 5 + 5) := by
    rw [List.drop_append, List.drop_of_length_le (by omega), List.nil_append]
    congr 1
    omega
  rw [h1, h2]
  have h3 : (A ++ D.take 5 ++ C ++ D.drop (k * 5 + 5)).take (i * 5) = A := by
    rw [List.append_assoc, List.append_assoc, ← hA, List.take_left]
  have h4 : (A ++ D.take 5 ++ C ++ D.drop (k * 5 + 5)).drop (i * 5 + X.length) = C ++ D.drop (k * 5 + 5) := by
    have h5 : (A ++ D.take 5).length = i * 5 + X.length := by rw [List.length_append, List.length_take]; omega
    rw [List.append_assoc, ← h5, List.drop_left]
  rw [h3, h4, List.append_assoc, List.append_assoc, List.append_assoc]

set_option maxRecDepth 100000 in
set_option maxHeartbeats 4000000 in
theorem insert_shift (B g cap i vb : Nat) (l : List Ar) (x : Ar) (w : World) (ho : w.ownsRow B 139 5 (.slice (some ⟨g, 0, none⟩) l.length cap) l.length (flat l)) (hl : l.length ≤ 100) (hi : i < l.length) (hroom : l.length < cap) (hv : Blk w vb x) (hs : Shp w vb) (hne : vb ≠ g) :
    Calls Tryz.prog 134 #[.slice (some ⟨g, 0, none⟩) l.length cap, .int .i64 i, .slice (some ⟨vb, 0, none⟩) 1 1] w (InsPost B l i x w) := by
  obtain ⟨i0, hinf, hz0, hz1, hz2⟩ := info_parts area_info
  have hsz : (Tryz.prog.info? 139).map (·.size) = some 5 := by rw [hinf]; simp [hz1]
  obtain ⟨_, ⟨hno, _⟩ | ⟨g', cap', cur, hge, hBg, hgg, _, hcm, hcs, htk⟩⟩ := ho
  · cases hno
  cases hge
  unfold maxLen at hcm
  have hfl := flat_len l
  have hcl : cur.toList = flat l ++ cur.toList.drop (l.length * 5) := by rw [← htk, List.take_append_drop]
  have hcn : cur.toList.length = cap * 5 := by simpa using hcs
  -- the cells
  obtain ⟨cur1, hcur1⟩ : ∃ cur1 : Array Value, cur1 = (cur.toList.take ((i + 1) * 5) ++ flat (l.drop i) ++ cur.toList.drop ((i + 1) * 5 + (flat (l.drop i)).length)).toArray := ⟨_, rfl⟩
  obtain ⟨cur2, hcur2⟩ : ∃ cur2 : Array Value, cur2 = (cur1.toList.take (i * 5) ++ x.cells ++ cur1.toList.drop (i * 5 + x.cells.length)).toArray := ⟨_, rfl⟩
  have hdl : (flat (l.drop i)).length = (l.length - i) * 5 := by rw [flat_len, List.length_drop]
  have hfin : cur2.toList = flat (l.take i) ++ x.cells ++ flat (l.drop i) ++ (cur.toList.drop (i * 5)).drop ((l.length - i) * 5 + 5) := by
    rw [hcur2, hcur1]
    show _ ++ _ ++ _ = _
    refine two_copies (flat (l.take i)) (flat (l.drop i)) (cur.toList.drop (i * 5)) x.cells i (l.length - i) ?_ rfl hdl cur.toList ?_ ?_
    · rw [flat_len, List.length_take]; congr 1; omega
    · rw [← flat_take l i (by omega), ← htk, List.take_take, Nat.min_eq_left (by omega), List.take_append_drop]
    · rw [List.length_drop, hcn]; omega
  have hsz2 : cur2.size = cap * 5 := by
    have := congrArg List.length hfin
    simp only [List.length_append, List.length_drop, hcn, hdl, flat_len, List.length_take] at this
    have hx : x.cells.length = 5 := rfl
    have h5 : cur2.toList.length = cur2.size := by simp
    omega
  have hsz1 : cur1.size = cap * 5 := by
    have h6 := congrArg Array.size hcur1
    simp only [List.size_toArray, List.length_append, List.length_take, List.length_drop, hcn, hdl] at h6
    omega
  have hcell : ∀ (W : World), W.heap[g]? = some (.cells cur 139 (0, 0)) → ∀ j v, (flat (l.drop i))[j]? = some v → W.cell? ((⟨g, i * 5, none⟩ : Addr).add j) = some v := by
    intro W hW j v hj
    rw [Addr.add_lit]
    simp only [World.cell?, hW]
    rw [← flat_drop l i (by omega), List.getElem?_drop] at hj
    have hlt := (List.getElem?_eq_some_iff.1 hj).1
    rw [← Array.getElem?_toList, hcl, List.getElem?_append_left hlt]
    exact hj
  obtain ⟨W1, hW1⟩ : ∃ W1 : World, W1 = w.drew.setRow g cur1 := ⟨_, rfl⟩
  obtain ⟨W2, hW2⟩ : ∃ W2 : World, W2 = W1.setRow g cur2 := ⟨_, rfl⟩
  have hg1 : W1.heap[g]? = some (.cells cur1 139 (0, 0)) := by rw [hW1]; exact setRow_heap _ g _ _ _ _ hgg
  have hg2 : W2.heap[g]? = some (.cells cur2 139 (0, 0)) := by rw [hW2]; exact setRow_heap _ g _ _ _ _ hg1
  have hb1 : Below B w W1 := by rw [hW1]; exact below_setRow (Below.drew (Below.refl _ _)) hBg _
  have hb2 : Below B w W2 := by rw [hW2]; exact below_setRow hb1 hBg _
  have HP : Hid (InsPost B l i x w (.returned (.slice (some ⟨g, 0, none⟩) (l.length + 1) cap)) W2) := by
    refine ⟨_, _, rfl, ⟨?_, Or.inr ⟨g, cap, cur2, rfl, hBg, hg2, hroom, by unfold maxLen; omega, hsz2, ?_⟩⟩, hb2⟩
    · rw [flat_len]; simp [insAt]; omega
    · rw [flat_insAt, hfin, List.take_left' ?_]
      simp only [List.length_append, hdl, flat_len, List.length_take]
      have hx : x.cells.length = 5 := rfl
      omega
  have hvc : ∀ j v, x.cells[j]? = some v → W1.cell? ((⟨vb, 0, none⟩ : Addr).add j) = some v := by
    intro j v hj
    have hj5 : j < 5 := (List.getElem?_eq_some_iff.1 hj).1
    have hco : ∀ o, W1.cell? ⟨vb, o, none⟩ = w.cell? ⟨vb, o, none⟩ := fun o => by
      rw [hW1]
      exact World.cell?_of_block (w := w) (a := ⟨vb, o, none⟩) (setRow_other _ g vb _ hne)
    rw [Addr.add_lit, Nat.zero_add, hco]
    have h5 : j = 0 ∨ j = 1 ∨ j = 2 ∨ j = 3 ∨ j = 4 := by omega
    rcases h5 with rfl | rfl | rfl | rfl | rfl <;> simp [Ar.cells] at hj <;> subst hj
    · exact hv.c0
    · exact hv.c1
    · exact hv.c2
    · exact hv.c3
    · exact hv.c4
  have hx1 : ∀ v ∈ x.cells, v.oneCell' = true := by
    intro u hu
    simp [Ar.cells] at hu
    rcases hu with rfl | rfl | rfl | rfl | rfl <;> rfl
  have hf1 : ∀ v ∈ flat (l.drop i), v.oneCell' = true := by
    intro u hu
    obtain ⟨a, _, ha⟩ := List.mem_flatMap.1 hu
    simp [Ar.cells] at ha
    rcases ha with rfl | rfl | rfl | rfl | rfl <;> rfl
  have hcp1 : ∀ ty dc sc, (Builtin.copy_ #[106, 106] ty #[.slice (some ⟨g, (i + 1) * 5, none⟩) (l.length - i) dc, .slice (some ⟨g, i * 5, none⟩) (l.length + 1 - i) sc]).run Tryz.prog w.drew = .ok (goInt ((l.length - i : Nat) : Int)) W1 := fun ty dc sc => by
    rw [hW1, hcur1]
    exact run_copy_sz Tryz.prog w.drew 106 106 ty 139 5 g ((i + 1) * 5) _ dc ⟨g, i * 5, none⟩ _ sc cur 139 (flat (l.drop i)) Tryz.underlying106 hsz hgg (l.length - i) (by simp only [Nat.min_def]; split <;> omega) hdl (hcell w.drew hgg) (by rw [hdl, hcs]; omega) hf1
  have hcp2 : ∀ ty dc, (Builtin.copy_ #[106, 106] ty #[.slice (some ⟨g, i * 5, none⟩) (l.length + 1 - i) dc, .slice (some ⟨vb, 0, none⟩) 1 1]).run Tryz.prog W1 = .ok (goInt 1) W2 := fun ty dc => by
    rw [hW2, hcur2]
    exact run_copy_sz Tryz.prog W1 106 106 ty 139 5 g (i * 5) _ dc ⟨vb, 0, none⟩ 1 1 cur1 139 x.cells Tryz.underlying106 hsz hg1 1 (by simp only [Nat.min_def]; split <;> omega) rfl hvc (by rw [hsz1]; show i * 5 + 5 ≤ _; omega) hx1
  have hov : ∀ lb cb, (callFunc 142 #[.slice (some ⟨vb, 0, none⟩) 1 1, .slice (some ⟨g, (i + 1) * 5, none⟩) lb cb]).run Tryz.prog w = .ok (.value (.bool false)) w := fun lb cb => by
    rw [run_callFunc_extern (P := Tryz.prog) Tryz.func142 (by kernel_rfl) (by kernel_rfl) (by kernel_rfl) (e := Extern.SlicesOverlaps.overlaps #[106, 106] #[4]) (by kernel_rfl),
      Lib.run_overlaps_apart w 106 4 139 Tryz.underlying106 5 Tryz.sizeOf139 ⟨vb, 0, none⟩ ⟨g, (i + 1) * 5, none⟩ 1 1 lb cb hne 139 139 5 cur.size hs.1 (by simp [World.shape?, hgg]) (by omega) (hs.2 0) (hs.2 5)]
    rfl
  have hz2 : ¬ ((i : Int) = (l.length : Int)) := by omega
  have hw1 : IntKind.i64.wrap ((i : Int) + 1) = (i : Int) + 1 := IntWalk.i64_in _ (by omega)
  have hc9 : (cap : Int) ≤ 9223372036854775807 := by omega
  have hil : (i : Int) < (l.length : Int) := by omega
  have hcl : (l.length : Int) < (cap : Int) := by omega
  have HC1 := Lib.hid hcp1
  have HC2 := Lib.hid hcp2
  clear hcp1 hcp2 hcell hvc hx1 hf1 hW1 hW2 hcur1 hcur2 hfin hsz1 hsz2 hg1 hg2 hb1 hb2 hdl hcn htk hgg hv hs hcs hfl
  generalize l.length = n at *
  have hb3 : (i : Int) ≤ (n : Int) + 1 := by omega
  have hcap2 : (i : Int) + 1 ≤ (n : Int) + 1 := by omega
  have mixed : Tryz.prog.follows Departure.mixedOrders = true := by kernel_rfl
  have hb1 : (0 : Int) ≤ (i : Int) + 1 := by omega
  have htn : ((i : Int) + 1).toNat = i + 1 := by omega
  have hb2 : ¬ (cap = i + 1) := by omega
  have hb4 : ¬ (cap = i) := by omega
  have hb5 : i ≤ n := by omega
  go_enter Tryz.func134, Tryz.ntmps134
  go_wp2_with (simp only [hov])
  go_region_law_o (refine step_copy_runI rfl _ _ 106 106 rfl (.slice (some ⟨g, (i + 1) * 5, none⟩) (n - i) (cap - (i + 1))) (.slice (some ⟨g, i * 5, none⟩) (n + 1 - i) (cap - i)) (by simp [Act.eval, Act.put]) (by simp [Act.eval, Act.put]) (HC1.out 3 (cap - (i + 1)) (cap - i)) ?_)
  have hcp2 := HC2.out
  go_wp2_with fail
  go_ret
  exact HP.out
end Go.Proofs.YtimhaidiclbnhaaGreat.Ara
/- slices.Insert at areas, ahead of an element, where there is no room. -/
set_option linter.unusedSimpArgs false
set_option linter.unusedVariables false
set_option maxRecDepth 100000
namespace Go.Proofs.YtimhaidiclbnhaaGreat.Ara
open Go.ChangeShapes Go.WideShapes Go.ChangeAt Go.RowKit

theorem two_copies2 (A X C R : List Value) (i k : Nat) (hA : A.length = i * 5) (hX : X.length = 5) (hR : R.take (i * 5) = A) :
    (R.take (i * 5) ++ X ++ R.drop (i * 5 + X.length)).take ((i + 1) * 5) ++ C ++ (R.take (i * 5) ++ X ++ R.drop (i * 5 + X.length)).drop ((i + 1) * 5 + C.length) = A ++ X ++ C ++ (R.take (i * 5) ++ X ++ R.drop (i * 5 + X.length)).drop ((i + 1) * 5 + C.length) := by
  congr 2
  have h5 : (A ++ X).length = (i + 1) * 5 := by rw [List.length_append]; omega
  rw [hR, ← h5, List.take_left]
theorem zeros_size (n : Nat) : (Builtin.zeroCells (Value.agg #[.int .i64 0, .int .i64 0, .int .i64 0, .int .i64 0, .bool false]).cells n).size = n * 5 := by
  simp [Builtin.zeroCells, Value.cells]
set_option maxRecDepth 100000 in
set_option maxHeartbeats 4000000 in
theorem insert_grow (B g cap i vb : Nat) (l : List Ar) (x : Ar) (w : World) (ho : w.ownsRow B 139 5 (.slice (some ⟨g, 0, none⟩) l.length cap) l.length (flat l)) (hB : B ≤ w.heap.size) (hl : l.length ≤ 100) (hi : i < l.length) (hroom : cap = l.length) (hv : Blk w vb x) :
    Calls Tryz.prog 134 #[.slice (some ⟨g, 0, none⟩) l.length cap, .int .i64 i, .slice (some ⟨vb, 0, none⟩) 1 1] w (InsPost B l i x w) := by
  obtain ⟨i0, hinf, hz0, hz1, hz2⟩ := info_parts area_info
  have hsz : (Tryz.prog.info? 139).map (·.size) = some 5 := by rw [hinf]; simp [hz1]
  obtain ⟨_, ⟨hno, _⟩ | ⟨g', cap', cur, hge, hBg, hgg, _, hcm, hcs, htk⟩⟩ := ho
  · cases hno
  cases hge
  unfold maxLen at hcm
  subst hroom
  have hfl := flat_len l
  have hgw : g < w.heap.size := (Array.getElem?_eq_some_iff.1 hgg).1
  have hcl : cur.toList = flat l := by rw [← htk, List.take_of_length_le (by simp [hcs])]
  have hdl : (flat (l.drop i)).length = (l.length - i) * 5 := by rw [flat_len, List.length_drop]
  have hal : (flat (l.take i)).length = i * 5 := by rw [flat_len, List.length_take]; congr 1; omega
  have hcellw : ∀ j v, (flat l)[j]? = some v → w.cell? ⟨g, j, none⟩ = some v := by
    intro j v hj
    simp only [World.cell?, hgg]
    rw [← Array.getElem?_toList, hcl]
    exact hj
  have hx1 : ∀ v ∈ x.cells, v.oneCell' = true := by
    intro u hu
    simp [Ar.cells] at hu
    rcases hu with rfl | rfl | rfl | rfl | rfl <;> rfl
  have hf1 : ∀ v ∈ flat (l.drop i), v.oneCell' = true := by
    intro u hu
    obtain ⟨a, _, ha⟩ := List.mem_flatMap.1 hu
    simp [Ar.cells] at ha
    rcases ha with rfl | rfl | rfl | rfl | rfl <;> rfl
  have hold : (Builtin.firstCells i0.size i (.slice (some ⟨g, 0, none⟩) i l.length)).run Tryz.prog w.drew = .ok (flat (l.take i)).toArray w.drew := by
    rw [hz1]
    exact run_firstCells_some w.drew 5 i ⟨g, 0, none⟩ i l.length (flat (l.take i)) hal (fun j v hj => by
      rw [Addr.add_lit, Nat.zero_add]
      rw [← flat_take l i (by omega), List.getElem?_take] at hj
      split at hj
      · exact hcellw j v hj
      · cases hj)
  obtain ⟨G, hG⟩ : ∃ G, G = grownCap w (l.length + 1) l.length 139 := ⟨_, rfl⟩
  have hGn : l.length + 1 ≤ G := by rw [hG]; exact grownCap_ge w _ _ _
  have hG63 : G ≤ 9223372036854775807 := by
    have := grownCap_le_maxLen w (l.length + 1) l.length 139 (by unfold maxLen; omega)
    rw [← hG] at this
    unfold maxLen at this
    omega
  obtain ⟨cur0, hcur0⟩ : ∃ cur0 : Array Value, cur0 = (flat (l.take i)).toArray ++ Builtin.zeroCells (Value.agg #[.int .i64 0, .int .i64 0, .int .i64 0, .int .i64 0, .bool false]).cells (l.length + 1 - i) ++ Builtin.zeroCells (Value.agg #[.int .i64 0, .int .i64 0, .int .i64 0, .int .i64 0, .bool false]).cells (G - (l.length + 1)) := ⟨_, rfl⟩
  have hsz0 : cur0.size = G * 5 := by
    rw [hcur0, Array.size_append, Array.size_append, zeros_size, zeros_size]
    show (flat (l.take i)).length + _ + _ = _
    omega
  have hA0 : cur0.toList.take (i * 5) = flat (l.take i) := by
    rw [hcur0, Array.toList_append, Array.toList_append, List.append_assoc, ← hal]
    exact List.take_left
  obtain ⟨N, hN⟩ : ∃ N, N = w.heap.size := ⟨_, rfl⟩
  obtain ⟨W1, hW1⟩ : ∃ W1, W1 = w.drew.alloc (.cells cur0 139) := ⟨_, rfl⟩
  have hik : i + (l.length + 1 - i) = l.length + 1 := by omega
  have hkk : (l.length : Int) + 1 - (i : Int) = ((l.length + 1 - i : Nat) : Int) := by omega
  have hrz : ∀ ty, (Builtin.append_ #[106, 3] ty #[.slice (some ⟨g, 0, none⟩) i l.length, .int .i64 ((l.length : Int) + 1 - (i : Int))]).run Tryz.prog w = .ok (.slice (some ⟨N, 0, none⟩) (l.length + 1) G) W1 := fun ty => by
    have h := Lib.run_append_grow_zeros (P := Tryz.prog) w 106 3 ty 139 i0 _ .i64 .i64 Tryz.underlying106 Tryz.underlying3 hinf hz0 (some ⟨g, 0, none⟩) i l.length (flat (l.take i)) hold (l.length + 1 - i) (by omega) (by omega) (by omega) (by omega) (by rw [hz2]; omega) (by rw [hz2, hik]; exact growslice_fits (by omega) (by omega))
    rw [hik, ← hG, ← hcur0, ← hW1, ← hN] at h
    rw [hkk]
    exact h
  have hg1 : W1.heap[N]? = some (.cells cur0 139 (0, 0)) := by rw [hW1, hN]; exact heap_alloc_new w.drew _
  have hb1 : Below B w W1 := by rw [hW1]; exact (Below.drew (Below.refl _ _)).alloc hB _
  have hNg : ∀ k, k < w.heap.size → ∀ o, W1.cell? ⟨k, o, none⟩ = w.cell? ⟨k, o, none⟩ := fun k hk o => by
    rw [hW1]
    exact World.cell?_of_block (w := w) (a := ⟨k, o, none⟩) (heap_alloc_old w.drew _ hk)
  obtain ⟨cur1, hcur1⟩ : ∃ cur1 : Array Value, cur1 = (cur0.toList.take (i * 5) ++ x.cells ++ cur0.toList.drop (i * 5 + x.cells.length)).toArray := ⟨_, rfl⟩
  obtain ⟨cur2, hcur2⟩ : ∃ cur2 : Array Value, cur2 = (cur1.toList.take ((i + 1) * 5) ++ flat (l.drop i) ++ cur1.toList.drop ((i + 1) * 5 + (flat (l.drop i)).length)).toArray := ⟨_, rfl⟩
  have hc0n : cur0.toList.length = G * 5 := by simpa using hsz0
  have hsz1 : cur1.size = G * 5 := by
    have h6 := congrArg Array.size hcur1
    simp only [List.size_toArray, List.length_append, List.length_take, List.length_drop, hc0n] at h6
    have hx : x.cells.length = 5 := rfl
    omega
  have hfin : cur2.toList = flat (l.take i) ++ x.cells ++ flat (l.drop i) ++ cur1.toList.drop ((i + 1) * 5 + (flat (l.drop i)).length) := by
    rw [hcur2, hcur1]
    exact two_copies2 (flat (l.take i)) x.cells (flat (l.drop i)) cur0.toList i 0 hal rfl hA0
  have hc1n : cur1.toList.length = G * 5 := by simpa using hsz1
  have hsz2 : cur2.size = G * 5 := by
    have := congrArg List.length hfin
    simp only [List.length_append, List.length_drop, hc1n, hdl, hal] at this
    have hx : x.cells.length = 5 := rfl
    have h5 : cur2.toList.length = cur2.size := by simp
    omega
  obtain ⟨W2, hW2⟩ : ∃ W2 : World, W2 = W1.setRow N cur1 := ⟨_, rfl⟩
  obtain ⟨W3, hW3⟩ : ∃ W3 : World, W3 = W2.drew.setRow N cur2 := ⟨_, rfl⟩
  have hg2 : W2.heap[N]? = some (.cells cur1 139 (0, 0)) := by rw [hW2]; exact setRow_heap _ N _ _ _ _ hg1
  have hg3 : W3.heap[N]? = some (.cells cur2 139 (0, 0)) := by rw [hW3]; exact setRow_heap _ N _ _ _ _ hg2
  have hBN : B ≤ N := by rw [hN]; exact hB
  have hb2 : Below B w W2 := by rw [hW2]; exact below_setRow hb1 hBN _
  have hb3 : Below B w W3 := by rw [hW3]; exact below_setRow (Below.drew hb2) hBN _
  have HP : Hid (InsPost B l i x w (.returned (.slice (some ⟨N, 0, none⟩) (l.length + 1) G)) W3) := by
    refine ⟨_, _, rfl, ⟨?_, Or.inr ⟨N, G, cur2, rfl, hBN, hg3, hGn, by unfold maxLen; omega, hsz2, ?_⟩⟩, hb3⟩
    · rw [flat_len]; simp [insAt]; omega
    · rw [flat_insAt, hfin, List.take_left' ?_]
      simp only [List.length_append, hdl, hal]
      have hx : x.cells.length = 5 := rfl
      omega
  have hvc : ∀ j v, x.cells[j]? = some v → W1.cell? ((⟨vb, 0, none⟩ : Addr).add j) = some v := by
    intro j v hj
    have hj5 : j < 5 := (List.getElem?_eq_some_iff.1 hj).1
    rw [Addr.add_lit, Nat.zero_add, hNg vb hv.hi]
    have h5 : j = 0 ∨ j = 1 ∨ j = 2 ∨ j = 3 ∨ j = 4 := by omega
    rcases h5 with rfl | rfl | rfl | rfl | rfl <;> simp [Ar.cells] at hj <;> subst hj
    · exact hv.c0
    · exact hv.c1
    · exact hv.c2
    · exact hv.c3
    · exact hv.c4
  have hgN : g ≠ N := by omega
  have hsc : ∀ j v, (flat (l.drop i))[j]? = some v → W2.drew.cell? ((⟨g, i * 5, none⟩ : Addr).add j) = some v := by
    intro j v hj
    rw [Addr.add_lit]
    have hco : W2.drew.cell? ⟨g, i * 5 + j, none⟩ = W1.cell? ⟨g, i * 5 + j, none⟩ := by
      rw [hW2]
      exact World.cell?_of_block (w := W1) (a := ⟨g, i * 5 + j, none⟩) (setRow_other _ N g _ hgN)
    rw [hco, hNg g hgw]
    rw [← flat_drop l i (by omega), List.getElem?_drop] at hj
    exact hcellw _ v hj
  have hcp1 : ∀ ty dc, (Builtin.copy_ #[106, 106] ty #[.slice (some ⟨N, i * 5, none⟩) (l.length + 1 - i) dc, .slice (some ⟨vb, 0, none⟩) 1 1]).run Tryz.prog W1 = .ok (goInt 1) W2 := fun ty dc => by
    rw [hW2, hcur1]
    exact run_copy_sz Tryz.prog W1 106 106 ty 139 5 N (i * 5) _ dc ⟨vb, 0, none⟩ 1 1 cur0 139 x.cells Tryz.underlying106 hsz hg1 1 (by simp only [Nat.min_def]; split <;> omega) rfl hvc (by rw [hsz0]; show i * 5 + 5 ≤ _; omega) hx1
  have hcp2 : ∀ ty dc sc, (Builtin.copy_ #[106, 106] ty #[.slice (some ⟨N, (i + 1) * 5, none⟩) (l.length - i) dc, .slice (some ⟨g, i * 5, none⟩) (l.length - i) sc]).run Tryz.prog W2.drew = .ok (goInt ((l.length - i : Nat) : Int)) W3 := fun ty dc sc => by
    rw [hW3, hcur2]
    exact run_copy_sz Tryz.prog W2.drew 106 106 ty 139 5 N ((i + 1) * 5) _ dc ⟨g, i * 5, none⟩ _ sc cur1 139 (flat (l.drop i)) Tryz.underlying106 hsz hg2 (l.length - i) (by simp only [Nat.min_def]; split <;> omega) hdl hsc (by rw [hdl, hsz1]; omega) hf1
  have hz2 : ¬ ((i : Int) = (l.length : Int)) := by omega
  have hw1 : IntKind.i64.wrap ((i : Int) + 1) = (i : Int) + 1 := IntWalk.i64_in _ (by omega)
  have hil : (i : Int) < (l.length : Int) := by omega
  have HC2 := Lib.hid hcp2
  clear hcp2 hsc hvc hx1 hf1 hW1 hW2 hW3 hcur0 hcur1 hcur2 hfin hsz0 hsz1 hsz2 hg1 hg2 hg3 hb1 hb2 hb3 hdl hcl htk hgg hv hcs hfl hold hA0 hc0n hc1n hNg hcellw hN hG hBN hkk hik hal
  generalize l.length = n at *
  have hb3 : (i : Int) ≤ (n : Int) + 1 := by omega
  have hcap2 : (i : Int) + 1 ≤ (n : Int) + 1 := by omega
  have mixed : Tryz.prog.follows Departure.mixedOrders = true := by kernel_rfl
  have hb1 : (0 : Int) ≤ (i : Int) + 1 := by omega
  have htn : ((i : Int) + 1).toNat = i + 1 := by omega
  have hb2 : ¬ (G = i + 1) := by omega
  have hb4 : ¬ (G = i) := by omega
  have hb6 : ¬ (n = i) := by omega
  have hb5 : i ≤ n := by omega
  have hn3 : (n : Int) < (n : Int) + 1 := by omega
  go_enter Tryz.func134, Tryz.ntmps134
  go_wp2_with (at_builtin; refine Lib.wpList_append_run _ rfl _ _ _ _ rfl _ _ rfl rfl _ _ (hrz _) ?_)

  go_region_law_o (refine step_copy_runI rfl _ _ 106 106 rfl (.slice (some ⟨N, (i + 1) * 5, none⟩) (n - i) (G - (i + 1))) (.slice (some ⟨g, i * 5, none⟩) (n - i) (n - i)) (by simp [Act.eval, Act.put]) (by simp [Act.eval, Act.put]) (HC2.out 3 (G - (i + 1)) (n - i)) ?_)
  go_wp2_with fail
  go_ret
  exact HP.out
end Go.Proofs.YtimhaidiclbnhaaGreat.Ara
