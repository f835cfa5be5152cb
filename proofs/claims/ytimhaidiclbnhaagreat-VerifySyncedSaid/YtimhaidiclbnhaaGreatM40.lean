/- Layer 46, shared texts of this seat, part 40. -/
import Derived.Test.YtimhaidiclbnhaaGreatM39
import Derived.Test.YtimhaidiclbnhaaGreatM38
/- Layer 46: the model at the beginning, in memory and as plain data. -/
set_option linter.unusedSimpArgs false
set_option linter.unusedVariables false
set_option maxRecDepth 100000
namespace Go.Proofs.YtimhaidiclbnhaaGreat.Ver
open Go.ChangeShapes Go.WideShapes Go.ChangeAt Go.RowKit
open Des (Dv De Dn DIn DBlk DAns Vi At RowOf ints DSz)
open Ara (Ar ARow)
open Con (StrRow)

def begF (n : Nat) (lst : List ByteArray) : List ByteArray := (List.range n).map fun i => lst.getD i ⟨#[]⟩
def begK (scr : List (List Opr)) (n : Nat) (fs : List ByteArray) (d : De) (k : Nat) : St :=
  { scr := scr, fs := fs, fa := List.replicate n 0, la := List.replicate n 0, d := d, ar := List.replicate scr.length [],
    h := (List.range n).map fun i => if i < k then ([fs.getD i ⟨#[]⟩], 0) else ([], 0), st := List.replicate n [], fin := List.replicate scr.length 0, bg := List.replicate scr.length 0, tm := 0 }
def begS (scr : List (List Opr)) (n : Nat) (lst : List ByteArray) : St := begK scr n (begF n lst) (Des.newD scr.length) n
theorem begF_len (n : Nat) (lst : List ByteArray) : (begF n lst).length = n := by simp [begF]
theorem begF_get (n : Nat) (lst : List ByteArray) (i : Nat) (hi : i < n) : (begF n lst).getD i ⟨#[]⟩ = lst.getD i ⟨#[]⟩ := by simp [begF, List.getD, hi]
theorem getD_repl {α : Type} (n i : Nat) (a d : α) (h : i < n) : (List.replicate n a).getD i d = a := by simp [List.getD, h]
def begL (β : Nat → Nat) (pl sc : Value) (n ns : Nat) : Ly := { M := β 8, F := β 0, A := β 1, L := β 2, R := β 5, H := β 3, S := β 4, N := β 6, B := β 7, pl := pl, sc := sc, x := Des.Dv.nil, ar := List.replicate ns Sl.nil, hs := List.replicate n Sl.nil, st := List.replicate n Sl.nil }
theorem stB_nil (n : Nat) : stB (List.replicate n Sl.nil) = [] := by
  unfold stB
  rw [List.filterMap_eq_nil_iff]
  intro a ha
  rw [List.eq_of_mem_replicate ha]
  rfl
theorem slC_nil {α : Type} (n : Nat) : slC (List.replicate n Sl.nil) (List.replicate n ([] : List α)) = List.replicate n (.slice none 0 0) := by
  apply List.ext_getElem?
  intro i
  rcases Nat.lt_or_ge i n with h | h
  · rw [slC_at _ _ i (by simpa using h), getD_repl n i _ _ h, getD_repl n i _ _ h]
    simp [h, Sl.nil]
  · rw [List.getElem?_eq_none (by rw [slC_len]; simpa using h), List.getElem?_eq_none (by simpa using h)]
theorem flat_congr {α β : Type} (f g : α → List β) : ∀ (l : List α), (∀ a, a ∈ l → f a = g a) → l.flatMap f = l.flatMap g
  | [], _ => rfl
  | a :: l, h => by
    rw [List.flatMap_cons, List.flatMap_cons, h a (by simp), flat_congr f g l fun b hb => h b (by simp [hb])]
theorem hC_nil (n : Nat) : hC (List.replicate n Sl.nil) ((List.range n).map fun i => if i < 0 then ([(List.replicate n (⟨#[]⟩ : ByteArray)).getD i ⟨#[]⟩], 0) else (([] : List ByteArray), (0 : Int))) = (List.range n).flatMap fun _ => [.slice none 0 0, .int .i64 0] := by
  have e : ((List.range n).map fun i => if i < 0 then ([(List.replicate n (⟨#[]⟩ : ByteArray)).getD i ⟨#[]⟩], 0) else (([] : List ByteArray), (0 : Int))) = List.replicate n ([], 0) := by
    apply List.ext_getElem?
    intro i
    rcases Nat.lt_or_ge i n with h | h
    · simp [h]
    · rw [List.getElem?_eq_none (by simpa using h), List.getElem?_eq_none (by simpa using h)]
  rw [e]
  unfold hC
  rw [List.length_replicate]
  refine flat_congr _ _ _ fun i hi => ?_
  have h := List.mem_range.1 hi
  rw [getD_repl n i _ _ h, getD_repl n i _ _ h]
  rfl
theorem begin_mm {W1 w W : World} {pl sc : Value} {n ns : Nat} {ν : Nat → Value} {β : Nat → Nat} {l : Array Bool} {scr : List (List Opr)} (hb : BgS W1 pl sc n ns ν β l w) (hall : ∀ j, j < 26 → l.getD j false = true)
    (hW : Below W.heap.size W W1) (hsc : ScIn W.heap.size W sc scr) (hns : scr.length = ns) : Mm W.heap.size w (begL β pl sc n ns) (begK scr n (List.replicate n ⟨#[]⟩) ⟨[], []⟩ 0) := by
  subst hns
  have hW1 := hW.size
  have al : ∀ j, j < 8 → W1.heap.size ≤ β j ∧ Bl w (β j) ((zsL n scr.length).getD j ([], 0)).1 ((zsL n scr.length).getD j ([], 0)).2 := fun j hj => hb.mks.al j hj (hall _ (by have := pos_le j hj; omega))
  have ne : ∀ i j, i < 8 → j < 8 → i ≠ j → β i ≠ β j := fun i j hi hj hij => hb.mks.ne i j hi hj hij (hall _ (by have := pos_le i hi; omega)) (hall _ (by have := pos_le j hj; omega))
  obtain ⟨_, _, b1, b2, b3⟩ := hb.bx (hall 24 (by omega))
  have hbw : Below W.heap.size W w := hW.trans (hb.mks.bel.mono hW1)
  have hvs : vs (begL β pl sc n scr.length) = [β 8, β 0, β 1, β 2, β 5, β 3, β 4, β 6, β 7] := by
    unfold vs
    show _ ++ stB (List.replicate n Sl.nil) = _
    rw [stB_nil]
    rfl
  have hlo : ∀ b, b ∈ vs (begL β pl sc n scr.length) → W.heap.size ≤ b := by
    intro b hbm
    rw [hvs] at hbm
    simp only [List.mem_cons, List.not_mem_nil, or_false] at hbm
    rcases hbm with rfl | rfl | rfl | rfl | rfl | rfl | rfl | rfl | rfl
    · omega
    all_goals first | (have := (al 0 (by omega)).1; omega) | (have := (al 1 (by omega)).1; omega) | (have := (al 2 (by omega)).1; omega) | (have := (al 3 (by omega)).1; omega) | (have := (al 4 (by omega)).1; omega) | (have := (al 5 (by omega)).1; omega) | (have := (al 6 (by omega)).1; omega) | (have := (al 7 (by omega)).1; omega)
  refine ⟨⟨⟨DIn.nil w, fun b hd => ?_⟩, rfl, fun i hi => ?_, fun i hi => ?_, hsc.below hbw⟩, ?_, ?_, ?_, ?_, ?_, ?_, ?_, ?_, ?_, fun i hi => ?_, ?_, hlo, hbw.size, ?_, ?_, ?_, fun b hb => by cases hb⟩
  · rcases hd with ⟨q, h1, _⟩ | ⟨q, h1, _⟩ | ⟨z, hz, _⟩
    · cases h1
    · cases h1
    · cases hz
  · have hi : i < scr.length := by simpa [begK] using hi
    show ARow 0 ((List.replicate scr.length Sl.nil).getD i Sl.nil).a _ ((List.replicate scr.length []).getD i []) w ∧ _
    simp only [begL, begK, getD_repl _ _ _ _ hi]
    exact ⟨Or.inl ⟨rfl, rfl, rfl⟩, fun q hq => by cases hq⟩
  · have hi : i < n := by simpa [begK] using hi
    have e : (((List.range n).map fun i => if i < 0 then ([(List.replicate n (⟨#[]⟩ : ByteArray)).getD i ⟨#[]⟩], 0) else (([] : List ByteArray), (0 : Int))).getD i ([], 0)).1 = [] := by simp [List.getD, hi]
    simp only [begL, begK, getD_repl _ _ _ _ hi, e]
    exact ⟨Or.inl ⟨rfl, rfl, rfl⟩, fun q hq => by cases hq⟩
  · have h1 := b2.at
    have e : mC (begL β pl sc n scr.length) (begK scr n (List.replicate n ⟨#[]⟩) ⟨[], []⟩ 0) = mzC pl sc n scr.length β := by
      simp [mC, mzC, cfgC, begL, begK, Des.Dv.nil]
    show At w (β 8) _
    rw [e]; exact h1
  · have h1 := (al 0 (by omega)).2.at
    show At w (β 0) ((List.replicate n (⟨#[]⟩ : ByteArray)).map Value.string)
    rw [List.map_replicate]; exact h1
  · have h1 := (al 1 (by omega)).2.at
    show At w (β 1) ((List.replicate n (0 : Int)).map _)
    rw [List.map_replicate]; exact h1
  · have h1 := (al 2 (by omega)).2.at
    show At w (β 2) ((List.replicate n (0 : Int)).map _)
    rw [List.map_replicate]; exact h1
  · have h1 := (al 5 (by omega)).2.at
    show At w (β 5) (slC (List.replicate scr.length Sl.nil) (List.replicate scr.length []))
    rw [slC_nil]; exact h1
  · have h1 := (al 3 (by omega)).2.at
    show At w (β 3) (hC (List.replicate n Sl.nil) _)
    have e := hC_nil n
    show At w (β 3) (hC (List.replicate n Sl.nil) ((List.range n).map _))
    exact e ▸ h1
  · have h1 := (al 4 (by omega)).2.at
    show At w (β 4) (slC (List.replicate n Sl.nil) (List.replicate n []))
    rw [slC_nil]; exact h1
  · have h1 := (al 6 (by omega)).2.at
    show At w (β 6) ((List.replicate scr.length (0 : Int)).map _)
    rw [List.map_replicate]; exact h1
  · have h1 := (al 7 (by omega)).2.at
    show At w (β 7) ((List.replicate scr.length (0 : Int)).map _)
    rw [List.map_replicate]; exact h1
  · have hi : i < n := by simpa [begK] using hi
    simp only [begL, begK, getD_repl _ _ _ _ hi]
    exact World.ownsRow_nil w _ 3 1
  · rw [hvs]
    have n01 := ne 0 1 (by omega) (by omega) (by omega); have n02 := ne 0 2 (by omega) (by omega) (by omega); have n03 := ne 0 3 (by omega) (by omega) (by omega); have n04 := ne 0 4 (by omega) (by omega) (by omega); have n05 := ne 0 5 (by omega) (by omega) (by omega); have n06 := ne 0 6 (by omega) (by omega) (by omega); have n07 := ne 0 7 (by omega) (by omega) (by omega)
    have n12 := ne 1 2 (by omega) (by omega) (by omega); have n13 := ne 1 3 (by omega) (by omega) (by omega); have n14 := ne 1 4 (by omega) (by omega) (by omega); have n15 := ne 1 5 (by omega) (by omega) (by omega); have n16 := ne 1 6 (by omega) (by omega) (by omega); have n17 := ne 1 7 (by omega) (by omega) (by omega)
    have n23 := ne 2 3 (by omega) (by omega) (by omega); have n24 := ne 2 4 (by omega) (by omega) (by omega); have n25 := ne 2 5 (by omega) (by omega) (by omega); have n26 := ne 2 6 (by omega) (by omega) (by omega); have n27 := ne 2 7 (by omega) (by omega) (by omega)
    have n53 := ne 5 3 (by omega) (by omega) (by omega); have n54 := ne 5 4 (by omega) (by omega) (by omega); have n56 := ne 5 6 (by omega) (by omega) (by omega); have n57 := ne 5 7 (by omega) (by omega) (by omega)
    have n34 := ne 3 4 (by omega) (by omega) (by omega); have n36 := ne 3 6 (by omega) (by omega) (by omega); have n37 := ne 3 7 (by omega) (by omega) (by omega); have n46 := ne 4 6 (by omega) (by omega) (by omega); have n47 := ne 4 7 (by omega) (by omega) (by omega); have n67 := ne 6 7 (by omega) (by omega) (by omega)
    have m0 := (b3 0 (by omega)).symm; have m1 := (b3 1 (by omega)).symm; have m2 := (b3 2 (by omega)).symm; have m3 := (b3 3 (by omega)).symm; have m4 := (b3 4 (by omega)).symm; have m5 := (b3 5 (by omega)).symm; have m6 := (b3 6 (by omega)).symm; have m7 := (b3 7 (by omega)).symm
    clear ne al b3 hlo hvs
    simp only [List.nodup_cons, List.mem_cons, List.not_mem_nil, or_false, not_or, not_false_eq_true, List.nodup_nil, and_true]
    exact ⟨⟨m0, m1, m2, m5, m3, m4, m6, m7⟩, ⟨n01, n02, n05, n03, n04, n06, n07⟩, ⟨n12, n15, n13, n14, n16, n17⟩, ⟨n25, n23, n24, n26, n27⟩, ⟨n53, n54, n56, n57⟩, ⟨n34, n36, n37⟩, ⟨n46, n47⟩, n67⟩
  · simp [begL, begK]
  · simp [begL, begK]
  · simp [begL, begK]
def setFs (xs : List ByteArray) (o : Nat) : List ByteArray → List ByteArray
  | [] => xs
  | v :: vs => setFs (xs.set o v) (o + 1) vs
theorem setFs_get : ∀ (vs xs : List ByteArray) (o i : Nat), o + vs.length ≤ xs.length → (setFs xs o vs).getD i ⟨#[]⟩ = if o ≤ i ∧ i < o + vs.length then vs.getD (i - o) ⟨#[]⟩ else xs.getD i ⟨#[]⟩
  | [], xs, o, i, h => by
    rw [if_neg (by simp only [List.length_nil]; omega)]
    rfl
  | v :: vs, xs, o, i, h => by
    simp only [List.length_cons] at h ⊢
    show (setFs (xs.set o v) (o + 1) vs).getD i ⟨#[]⟩ = _
    rw [setFs_get vs (xs.set o v) (o + 1) i (by rw [List.length_set]; omega)]
    by_cases h1 : i = o
    · subst h1
      rw [if_neg (by omega), if_pos (by omega), getD_set _ _ _ _ _ (by omega), if_pos rfl]
      simp
    · by_cases h2 : o + 1 ≤ i ∧ i < o + 1 + vs.length
      · rw [if_pos h2, if_pos (by omega), show i - o = (i - (o + 1)) + 1 from by omega]
        simp
      · rw [if_neg h2, if_neg (by omega), getD_set _ _ _ _ _ (by omega), if_neg h1]
theorem setFs_len : ∀ (vs xs : List ByteArray) (o : Nat), (setFs xs o vs).length = xs.length
  | [], _, _ => rfl
  | v :: vs, xs, o => by
    show (setFs (xs.set o v) (o + 1) vs).length = _
    rw [setFs_len vs, List.length_set]
theorem setFs_beg (n : Nat) (lst : List ByteArray) (h : lst.length ≤ n) : setFs (List.replicate n ⟨#[]⟩) 0 lst = begF n lst := by
  refine ext_getD ⟨#[]⟩ (by rw [setFs_len, begF_len, List.length_replicate]) fun i hi => ?_
  rw [setFs_len, List.length_replicate] at hi
  rw [setFs_get _ _ _ _ (by rw [List.length_replicate]; omega), begF_get n lst i hi]
  by_cases h2 : i < lst.length
  · rw [if_pos (by omega), Nat.sub_zero]
  · rw [if_neg (by omega), getD_repl n i _ _ hi]
    simp [List.getD, h2]
theorem Mm.putFs {B : Nat} {l : Ly} : ∀ (vs : List ByteArray) (o : Nat) {W : World} {s : St}, Mm B W l s → Mm B (W.setCells l.F o (vs.map Value.string)) l { s with fs := setFs s.fs o vs }
  | [], _, _, _, h => h
  | v :: vs, o, W, s, h => Mm.putFs vs (o + 1) (h.putF o v)
theorem begK_set (scr : List (List Opr)) (n : Nat) (fs : List ByteArray) (d : De) (k : Nat) (hk : k < n) : { begK scr n fs d k with h := (begK scr n fs d k).h.set k ([fs.getD k ⟨#[]⟩], 0) } = begK scr n fs d (k + 1) := by
  have e : ((List.range n).map fun i => if i < k then ([fs.getD i ⟨#[]⟩], (0 : Int)) else ([], 0)).set k ([fs.getD k ⟨#[]⟩], 0) = (List.range n).map fun i => if i < k + 1 then ([fs.getD i ⟨#[]⟩], (0 : Int)) else ([], 0) := by
    refine ext_getD ([], 0) (by simp) fun i hi => ?_
    have hi : i < n := by simpa using hi
    rw [getD_set _ _ _ _ _ (by simpa using hk)]
    by_cases h : i = k
    · subst h
      rw [if_pos rfl]
      simp only [List.getD, List.getElem?_map, List.getElem?_range hk, Option.map_some, Option.getD_some]
      rw [if_pos (by omega)]
    · rw [if_neg h]
      simp only [List.getD, List.getElem?_map, List.getElem?_range hi, Option.map_some, Option.getD_some]
      by_cases h2 : i < k
      · rw [if_pos h2, if_pos (by omega)]
      · rw [if_neg h2, if_neg (by omega)]
  unfold begK
  simp only
  rw [e]
end Go.Proofs.YtimhaidiclbnhaaGreat.Ver
/- Layer 46: a record applied to the model, as plain data. -/
set_option linter.unusedSimpArgs false
set_option linter.unusedVariables false
set_option maxRecDepth 100000
namespace Go.Proofs.YtimhaidiclbnhaaGreat.Ver
open Go.ChangeShapes Go.WideShapes Go.ChangeAt Go.RowKit
open Des (Dv De Dn DIn DBlk DAns Vi At RowOf ints DSz)
open Ara (Ar ARow)
open Con (StrRow)

def Ev.zero : Ev := ⟨0, 0, 0, 0, 0, 0, 0, 0, ⟨#[]⟩⟩
/-- k events of a record: the model, and the findings -/
def runS (s : St) (xs : List Ev) : Nat → St × List (Int × Int)
  | 0 => (s, [])
  | k + 1 => ((takeS (runS s xs k).1 (k : Int) (xs.getD k Ev.zero)).2, (runS s xs k).2 ++ if (takeS (runS s xs k).1 (k : Int) (xs.getD k Ev.zero)).1 = 0 then [] else [((k : Int), (takeS (runS s xs k).1 (k : Int) (xs.getD k Ev.zero)).1)])
def fnd (l : List (Int × Int)) : List Value := l.flatMap fun p => [.int .i64 p.1, .int .i64 p.2]
theorem fnd_snoc (l : List (Int × Int)) (a b : Int) : fnd (l ++ [(a, b)]) = fnd l ++ [.int .i64 a, .int .i64 b] := by simp [fnd]
/-- a record lies in memory -/
def EvRow (W : World) (v : Value) (xs : List Ev) : Prop :=
  (v = .slice none 0 0 ∧ xs = []) ∨ ∃ g o c, v = .slice (some ⟨g, o, none⟩) xs.length c ∧ g < W.heap.size ∧ xs.length ≤ c ∧ c ≤ maxLen ∧ ∀ i, i < xs.length → ∀ j u, (xs.getD i Ev.zero).cells[j]? = some u → W.cell? ⟨g, o + i * 9 + j, none⟩ = some u
theorem EvRow.below {W W' : World} {v : Value} {xs : List Ev} (h : EvRow W v xs) (hb : Below W.heap.size W W') : EvRow W' v xs := by
  rcases h with h | ⟨g, o, c, h1, h2, h3, h4, h5⟩
  · exact Or.inl h
  · exact Or.inr ⟨g, o, c, h1, Nat.lt_of_lt_of_le h2 hb.size, h3, h4, fun i hi j u hu => (hb.cell (p := ⟨g, o + i * 9 + j, none⟩) h2).trans (h5 i hi j u hu)⟩
theorem run_keep (s : St) (xs : List Ev) (k : Nat) : (runS s xs k).1.scr = s.scr ∧ (runS s xs k).1.fs.length = s.fs.length := by
  induction k with
  | zero => exact ⟨rfl, rfl⟩
  | succ k ih =>
    obtain ⟨h1, h2⟩ := take_keep (runS s xs k).1 (k : Int) (xs.getD k Ev.zero)
    exact ⟨h1.trans ih.1, h2.trans ih.2⟩
theorem run_ok {s : St} (h : Ok 0 s) (xs : List Ev) (k : Nat) : Ok k (runS s xs k).1 := by
  induction k with
  | zero => exact h
  | succ k ih => exact ok_take ih _ _
theorem run_len (s : St) (xs : List Ev) (k : Nat) : (runS s xs k).2.length ≤ k := by
  induction k with
  | zero => exact Nat.le_refl _
  | succ k ih =>
    show ((runS s xs k).2 ++ _).length ≤ k + 1
    rw [List.length_append]
    split <;> simp <;> omega
/-- operations that the laws make -/
def OpsOK (scr : List (List Opr)) : Prop := ∀ p i, p < scr.length → i < (scr.getD p []).length → 1 ≤ ((scr.getD p []).getD i Opr.zero).kd ∧ ((scr.getD p []).getD i Opr.zero).kd ≤ 14 ∧ ((scr.getD p []).getD i Opr.zero).off ≤ 1000000 ∧ ((scr.getD p []).getD i Opr.zero).dat.size ≤ 1000
theorem repl_get {n j : Nat} : (List.replicate n (0 : Int)).getD j 0 = 0 := by
  by_cases h : j < n <;> simp [List.getD, h]
theorem repl_nil {α : Type} {n j : Nat} : (List.replicate n ([] : List α)).getD j [] = [] := by
  by_cases h : j < n <;> simp [List.getD, h]
theorem ok_beg (scr : List (List Opr)) (n : Nat) (lst : List ByteArray) (hn : n ≤ 1000) (hs : 1 ≤ scr.length ∧ scr.length ≤ 8) (hsz : ∀ s, s ∈ lst → s.size ≤ 128) (ho : OpsOK scr) : Ok 0 (begS scr n lst) := by
  have hf : (begS scr n lst).fs.length = n := begF_len n lst
  have hh : ∀ i, i < n → ((begS scr n lst).h.getD i ([], 0)) = ([(begF n lst).getD i ⟨#[]⟩], 0) := fun i hi => by
    show (((List.range n).map fun i => if i < n then ([(begF n lst).getD i ⟨#[]⟩], (0 : Int)) else ([], 0)).getD i ([], 0)) = _
    simp [List.getD, hi]
  refine ⟨?_, ?_, ?_, ?_, ?_, ?_, fun i hi => ?_, fun i hi => ?_, fun i hi z hz => ?_, fun y hy => ?_, ?_, ?_, fun p => ?_, fun p a ha => ?_, ?_, ?_, fun p => ?_, fun f => ?_, ho⟩
  · show Des.Rt (Des.newD (scr.length : Int))
    refine Des.rt_new ?_
    unfold Des.newE
    rw [if_pos (by omega)]
  · rw [hf]; exact hn
  · rw [hf]; exact List.length_replicate
  · rw [hf]; exact List.length_replicate
  · rw [hf]; show ((List.range n).map _).length = n; simp
  · rw [hf]; exact List.length_replicate
  · have hi : i < n := by have : i < ((List.range n).map fun i => if i < n then ([(begF n lst).getD i ⟨#[]⟩], (0 : Int)) else ([], 0)).length := hi; simpa using this
    rw [hh i hi]; simp
  · show ((List.replicate n ([] : List Int)).getD i []).length ≤ 0
    rw [repl_nil]; simp
  · have hz : z ∈ (List.replicate n ([] : List Int)).getD i [] := hz
    rw [repl_nil] at hz; cases hz
  · have hy : y ∈ (List.range n).map fun i => lst.getD i ⟨#[]⟩ := hy
    obtain ⟨i, _, rfl⟩ := List.mem_map.1 hy
    exact getD_mem0 fun y hy => Nat.le_trans (hsz y hy) (by omega)
  · show scr.length ≤ 1000; omega
  · exact List.length_replicate
  · show ((List.replicate scr.length ([] : List Ar)).getD p []).length ≤ 100
    rw [repl_nil]; simp
  · have ha : a ∈ (List.replicate scr.length ([] : List Ar)).getD p [] := ha
    rw [repl_nil] at ha; cases ha
  · exact List.length_replicate
  · exact List.length_replicate
  · show 0 ≤ (List.replicate scr.length (0 : Int)).getD p 0 ∧ (List.replicate scr.length (0 : Int)).getD p 0 ≤ ((0 : Nat) : Int)
    rw [repl_get]; simp
  · show 0 ≤ (List.replicate n (0 : Int)).getD f 0 ∧ (List.replicate n (0 : Int)).getD f 0 ≤ 1000000
    rw [repl_get]; omega
end Go.Proofs.YtimhaidiclbnhaaGreat.Ver
