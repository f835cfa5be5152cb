/- slices.Insert at areas, ahead of an element. -/
import Derived.Test.YthfjlojikbgnfaaIn
import Derived.Shelf.Spec.SlicesInsertGrow
import Derived.Laws.CopyOwn
namespace Go.Proofs.Ythfjlojikbgnfaa
open Go.ChangeShapes Go.WideShapes Go.ChangeAt Go.RowKit

/-- copy at elements of sz cells each -/
theorem run_copy_sz (P : Program) (w : World) (dT sT ty elem : TypeId) (sz g o dLen dCap : Nat) (a : Addr) (sLen sCap : Nat) (cur : Array Value) (t : TypeId) (cs : List Value)
    (hu : P.underlying dT = some (.slice elem)) (hs : (P.info? elem).map (·.size) = some sz)
    (hg : w.heap[g]? = some (.cells cur t (0, 0))) (m : Nat) (hm : Nat.min sLen dLen = m) (hn : cs.length = m * sz)
    (hsrc : ∀ j v, cs[j]? = some v → w.cell? (a.add j) = some v) (hfit : o + cs.length ≤ cur.size) (h1 : ∀ v ∈ cs, v.oneCell' = true) :
    (Builtin.copy_ #[dT, sT] ty #[.slice (some ⟨g, o, none⟩) dLen dCap, .slice (some a) sLen sCap]).run P w =
      .ok (goInt m) (w.setRow g (cur.toList.take o ++ cs ++ cur.toList.drop (o + cs.length)).toArray) := by
  have hl := run_loadCells_list (P := P) w a cs hsrc
  have hst := run_storeCells_at P g o t cs 0 cur w hg (by simpa using hfit) h1
  cases hq : P.info? elem with
  | none => simp [hq] at hs
  | some i =>
    have hi : i.size = sz := by simpa [hq] using hs
    simp [Builtin.copy_, run_underlying hu, Builtin.lenOf, Builtin.firstCells, sizeOf, typeInfo, hq, hi, hm, ← hn, hl, hst]

theorem flat_take (l : List Ar) (i : Nat) (hi : i ≤ l.length) : (flat l).take (i * 11) = flat (l.take i) := by
  have h : flat l = flat (l.take i) ++ flat (l.drop i) := by rw [← flat_append, List.take_append_drop]
  have h2 : (flat (l.take i)).length = i * 11 := by rw [flat_len, List.length_take]; congr 1; omega
  rw [h, ← h2, List.take_left]
theorem flat_drop (l : List Ar) (i : Nat) (hi : i ≤ l.length) : (flat l).drop (i * 11) = flat (l.drop i) := by
  have h : flat l = flat (l.take i) ++ flat (l.drop i) := by rw [← flat_append, List.take_append_drop]
  have h2 : (flat (l.take i)).length = i * 11 := by rw [flat_len, List.length_take]; congr 1; omega
  rw [h, ← h2, List.drop_left]
theorem flat_insAt (l : List Ar) (i : Nat) (x : Ar) : flat (insAt l i x) = flat (l.take i) ++ x.cells ++ flat (l.drop i) := by
  unfold insAt
  rw [flat_append, show x :: l.drop i = [x] ++ l.drop i from rfl, flat_append, flat_one, List.append_assoc]
/-- block vb is a plain row of one area -/
def Shp (W : World) (vb : Nat) : Prop := W.shape? vb = some (40, 11) ∧ ∀ o, W.frozen? ⟨vb, o, none⟩ = false
/-- two copies into a row: first what stands from i on, one place up, then one area -/
theorem two_copies (A C D X : List Value) (i k : Nat) (hA : A.length = i * 11) (hX : X.length = 11) (hC : C.length = k * 11) (R : List Value) (hR : A ++ D = R) (hD : k * 11 + 11 ≤ D.length) :
    (R.take ((i + 1) * 11) ++ C ++ R.drop ((i + 1) * 11 + C.length)).take (i * 11) ++ X ++ (R.take ((i + 1) * 11) ++ C ++ R.drop ((i + 1) * 11 + C.length)).drop (i * 11 + X.length) = A ++ X ++ C ++ D.drop (k * 11 + 11) := by
  subst hR
  have h1 : (A ++ D).take ((i + 1) * 11) = A ++ D.take 11 := by
    rw [List.take_append, List.take_of_length_le (by omega)]
    congr 2
    omega
  have h2 : (A ++ D).drop ((i + 1) * 11 + C.length) = D.drop (k * 11 + 11) := by
    rw [List.drop_append, List.drop_of_length_le (by omega), List.nil_append]
    congr 1
    omega
  rw [h1, h2]
  have h3 : (A ++ D.take 11 ++ C ++ D.drop (k * 11 + 11)).take (i * 11) = A := by
    rw [List.append_assoc, List.append_assoc, ← hA, List.take_left]
  have h4 : (A ++ D.take 11 ++ C ++ D.drop (k * 11 + 11)).drop (i * 11 + X.length) = C ++ D.drop (k * 11 + 11) := by
    have h5 : (A ++ D.take 11).length = i * 11 + X.length := by rw [List.length_append, List.length_take]; omega
    rw [List.append_assoc, ← h5, List.drop_left]
  rw [h3, h4, List.append_assoc, List.append_assoc, List.append_assoc]

set_option maxRecDepth 100000 in
set_option maxHeartbeats 4000000 in
theorem insert_shift (B g cap i vb : Nat) (l : List Ar) (x : Ar) (w : World) (ho : w.ownsRow B 40 11 (.slice (some ⟨g, 0, none⟩) l.length cap) l.length (flat l)) (hl : l.length ≤ 100) (hi : i < l.length) (hroom : l.length < cap) (hv : w.rangeAt vb 0 x.cells) (hs : Shp w vb) (hne : vb ≠ g) :
    Calls Try.prog 29 #[.slice (some ⟨g, 0, none⟩) l.length cap, .int .i64 i, .slice (some ⟨vb, 0, none⟩) 1 1] w (InsPost B (.slice (some ⟨g, 0, none⟩) l.length cap) l i x w) := by
  obtain ⟨i0, hinf, hz0, hz1, hz2⟩ := info_parts area_info
  have hsz : (Try.prog.info? 40).map (·.size) = some 11 := by rw [hinf]; simp [hz1]
  obtain ⟨_, ⟨hno, _⟩ | ⟨g', cap', cur, hge, hBg, hgg, _, hcm, hcs, htk⟩⟩ := ho
  · cases hno
  cases hge
  unfold maxLen at hcm
  have hfl := flat_len l
  have hcl : cur.toList = flat l ++ cur.toList.drop (l.length * 11) := by rw [← htk, List.take_append_drop]
  have hcn : cur.toList.length = cap * 11 := by simpa using hcs
  -- the cells
  obtain ⟨cur1, hcur1⟩ : ∃ cur1 : Array Value, cur1 = (cur.toList.take ((i + 1) * 11) ++ flat (l.drop i) ++ cur.toList.drop ((i + 1) * 11 + (flat (l.drop i)).length)).toArray := ⟨_, rfl⟩
  obtain ⟨cur2, hcur2⟩ : ∃ cur2 : Array Value, cur2 = (cur1.toList.take (i * 11) ++ x.cells ++ cur1.toList.drop (i * 11 + x.cells.length)).toArray := ⟨_, rfl⟩
  have hdl : (flat (l.drop i)).length = (l.length - i) * 11 := by rw [flat_len, List.length_drop]
  have hfin : cur2.toList = flat (l.take i) ++ x.cells ++ flat (l.drop i) ++ (cur.toList.drop (i * 11)).drop ((l.length - i) * 11 + 11) := by
    rw [hcur2, hcur1]
    show _ ++ _ ++ _ = _
    refine two_copies (flat (l.take i)) (flat (l.drop i)) (cur.toList.drop (i * 11)) x.cells i (l.length - i) ?_ rfl hdl cur.toList ?_ ?_
    · rw [flat_len, List.length_take]; congr 1; omega
    · rw [← flat_take l i (by omega), ← htk, List.take_take, Nat.min_eq_left (by omega), List.take_append_drop]
    · rw [List.length_drop, hcn]; omega
  have hsz2 : cur2.size = cap * 11 := by
    have := congrArg List.length hfin
    simp only [List.length_append, List.length_drop, hcn, hdl, flat_len, List.length_take] at this
    have hx : x.cells.length = 11 := rfl
    have h5 : cur2.toList.length = cur2.size := by simp
    omega
  have hsz1 : cur1.size = cap * 11 := by
    have h6 := congrArg Array.size hcur1
    simp only [List.size_toArray, List.length_append, List.length_take, List.length_drop, hcn, hdl] at h6
    omega
  have hcell : ∀ (W : World), W.heap[g]? = some (.cells cur 40 (0, 0)) → ∀ j v, (flat (l.drop i))[j]? = some v → W.cell? ((⟨g, i * 11, none⟩ : Addr).add j) = some v := by
    intro W hW j v hj
    rw [Addr.add_lit]
    simp only [World.cell?, hW]
    rw [← flat_drop l i (by omega), List.getElem?_drop] at hj
    have hlt := (List.getElem?_eq_some_iff.1 hj).1
    rw [← Array.getElem?_toList, hcl, List.getElem?_append_left hlt]
    exact hj
  obtain ⟨W1, hW1⟩ : ∃ W1 : World, W1 = w.drew.setRow g cur1 := ⟨_, rfl⟩
  obtain ⟨W2, hW2⟩ : ∃ W2 : World, W2 = W1.setRow g cur2 := ⟨_, rfl⟩
  have hg1 : W1.heap[g]? = some (.cells cur1 40 (0, 0)) := by rw [hW1]; exact setRow_heap _ g _ _ _ _ hgg
  have hg2 : W2.heap[g]? = some (.cells cur2 40 (0, 0)) := by rw [hW2]; exact setRow_heap _ g _ _ _ _ hg1
  have hb1 : Below B w W1 := by rw [hW1]; exact below_setRow (Below.drew (Below.refl _ _)) hBg _
  have hb2 : Below B w W2 := by rw [hW2]; exact below_setRow hb1 hBg _
  have HP : Hid (InsPost B (.slice (some ⟨g, 0, none⟩) l.length cap) l i x w (.returned (.slice (some ⟨g, 0, none⟩) (l.length + 1) cap)) W2) := by
    refine ⟨_, _, rfl, ⟨?_, Or.inr ⟨g, cap, cur2, rfl, hBg, hg2, hroom, by unfold maxLen; omega, hsz2, ?_⟩⟩, fun k _ hk => ?_, hb2⟩
    · rw [flat_len]; simp [insAt]; omega
    · rw [flat_insAt, hfin, List.take_left' ?_]
      simp only [List.length_append, hdl, flat_len, List.length_take]
      have hx : x.cells.length = 11 := rfl
      omega
    · have hkg : k ≠ g := fun e => hk (by rw [e]; rfl)
      rw [hW2, setRow_other _ g k _ hkg, hW1, setRow_other _ g k _ hkg]; rfl
  have hvc : ∀ j v, x.cells[j]? = some v → W1.cell? ((⟨vb, 0, none⟩ : Addr).add j) = some v := by
    intro j v hj
    have hco : ∀ o, W1.cell? ⟨vb, o, none⟩ = w.cell? ⟨vb, o, none⟩ := fun o => by
      rw [hW1]
      exact World.cell?_of_block (w := w) (a := ⟨vb, o, none⟩) (setRow_other _ g vb _ hne)
    rw [Addr.add_lit, hco]
    exact hv j v hj
  have hx1 : ∀ v ∈ x.cells, v.oneCell' = true := oneC x
  have hf1 : ∀ v ∈ flat (l.drop i), v.oneCell' = true := cells_one
  have hcp1 : ∀ ty dc sc, (Builtin.copy_ #[34, 34] ty #[.slice (some ⟨g, (i + 1) * 11, none⟩) (l.length - i) dc, .slice (some ⟨g, i * 11, none⟩) (l.length + 1 - i) sc]).run Try.prog w.drew = .ok (goInt ((l.length - i : Nat) : Int)) W1 := fun ty dc sc => by
    rw [hW1, hcur1]
    exact run_copy_sz Try.prog w.drew 34 34 ty 40 11 g ((i + 1) * 11) _ dc ⟨g, i * 11, none⟩ _ sc cur 40 (flat (l.drop i)) Try.underlying34 hsz hgg (l.length - i) (by simp only [Nat.min_def]; split <;> omega) hdl (hcell w.drew hgg) (by rw [hdl, hcs]; omega) hf1
  have hcp2 : ∀ ty dc, (Builtin.copy_ #[34, 34] ty #[.slice (some ⟨g, i * 11, none⟩) (l.length + 1 - i) dc, .slice (some ⟨vb, 0, none⟩) 1 1]).run Try.prog W1 = .ok (goInt 1) W2 := fun ty dc => by
    rw [hW2, hcur2]
    exact run_copy_sz Try.prog W1 34 34 ty 40 11 g (i * 11) _ dc ⟨vb, 0, none⟩ 1 1 cur1 40 x.cells Try.underlying34 hsz hg1 1 (by simp only [Nat.min_def]; split <;> omega) rfl hvc (by rw [hsz1]; show i * 11 + 11 ≤ _; omega) hx1
  have hov : ∀ lb cb, (callFunc 33 #[.slice (some ⟨vb, 0, none⟩) 1 1, .slice (some ⟨g, (i + 1) * 11, none⟩) lb cb]).run Try.prog w = .ok (.value (.bool false)) w := fun lb cb => by
    rw [run_callFunc_extern (P := Try.prog) Try.func33 (by kernel_rfl) (by kernel_rfl) (by kernel_rfl) (e := Extern.SlicesOverlaps.overlaps #[34, 34] #[4]) (by kernel_rfl),
      Lib.run_overlaps_apart w 34 4 40 Try.underlying34 11 Try.sizeOf40 ⟨vb, 0, none⟩ ⟨g, (i + 1) * 11, none⟩ 1 1 lb cb hne 40 40 11 cur.size hs.1 (by simp [World.shape?, hgg]) (by omega) (hs.2 0) (hs.2 11)]
    rfl
  have hz2 : ¬ ((i : Int) = (l.length : Int)) := by omega
  have hw1 : IntKind.i64.wrap ((i : Int) + 1) = (i : Int) + 1 := IntWalk.i64_in _ (by omega)
  have hc9 : (cap : Int) ≤ 9223372036854775807 := by omega
  have hil : (i : Int) < (l.length : Int) := by omega
  have hcl : (l.length : Int) < (cap : Int) := by omega
  have HC1 := Lib.hid hcp1
  have HC2 := Lib.hid hcp2
  clear hcp1 hcp2 hcell hvc hx1 hf1 hW1 hW2 hcur1 hcur2 hfin hsz1 hsz2 hg1 hg2 hb1 hb2 hdl hcn htk hgg hv hs hcs hfl
  generalize l.length = n at *
  have hb3 : (i : Int) ≤ (n : Int) + 1 := by omega
  have hcap2 : (i : Int) + 1 ≤ (n : Int) + 1 := by omega
  have mixed : Try.prog.follows Departure.mixedOrders = true := by kernel_rfl
  have hb1 : (0 : Int) ≤ (i : Int) + 1 := by omega
  have htn : ((i : Int) + 1).toNat = i + 1 := by omega
  have hb2 : ¬ (cap = i + 1) := by omega
  have hb4 : ¬ (cap = i) := by omega
  have hb5 : i ≤ n := by omega
  go_enter Try.func29, Try.ntmps29
  go_wp2_with (simp only [hov])
  go_region_law_o (refine step_copy_runI rfl _ _ 34 34 rfl (.slice (some ⟨g, (i + 1) * 11, none⟩) (n - i) (cap - (i + 1))) (.slice (some ⟨g, i * 11, none⟩) (n + 1 - i) (cap - i)) (by simp [Act.eval, Act.put]) (by simp [Act.eval, Act.put]) (HC1.out 3 (cap - (i + 1)) (cap - i)) ?_)
  have hcp2 := HC2.out
  go_wp2_with fail
  go_ret
  exact HP.out
end Go.Proofs.Ythfjlojikbgnfaa
