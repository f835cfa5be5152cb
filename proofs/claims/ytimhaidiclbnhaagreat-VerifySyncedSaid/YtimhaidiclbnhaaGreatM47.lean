/- Layer 46, shared texts of this seat, part 47. -/
import Derived.Test.YtimhaidiclbnhaaGreatM46
/- Layer 46: open, write, synchronise, write: as plain data. -/
set_option linter.unusedSimpArgs false
set_option linter.unusedVariables false
set_option maxRecDepth 100000
namespace Go.Proofs.YtimhaidiclbnhaaGreat.Ver
open Go.ChangeShapes Go.WideShapes Go.ChangeAt Go.RowKit
open Des (Dv De Dn DIn DBlk DAns Vi At RowOf ints DSz)
open Con (StrRow)

/-- one description, of descriptor 0, with an offset -/
def DD (q : Nat) : De := ⟨[⟨0, 3, (q : Int), 0, 1⟩], [[1, 0, 0, 0, 0, 0, 0, 0, 0, 0, 0, 0, 0, 0, 0, 0]]⟩
theorem dd_chk0 : Des.checkV (DD 0) = true := by decide
theorem dd_upd0 (q : Nat) (hq : q ≤ 128) : Des.updD (DD 0) 0 (q : Int) 0 = DD q := by
  have h : Des.updE (DD 0) 0 (q : Int) 0 = 0 := by
    unfold Des.updE
    rw [if_neg (by rw [dd_chk0]; decide), if_neg (by decide), if_neg]
    unfold Des.movB
    rw [decide_eq_true (by omega)]
    decide
  unfold Des.updD
  rw [if_pos h]
  rfl
theorem dd_rt (q : Nat) (hq : q ≤ 128) : Des.Rt (DD q) := by rw [← dd_upd0 q hq]; exact Des.rt_upd (Des.check_rt dd_chk0)
theorem dd_chk (q : Nat) (hq : q ≤ 128) : Des.checkV (DD q) = true := Des.rt_check (dd_rt q hq)
theorem dd_upd (p q : Nat) (hp : p ≤ 128) (hq : q ≤ 128) : Des.updD (DD p) 0 (q : Int) 0 = DD q := by
  have h : Des.updE (DD p) 0 (q : Int) 0 = 0 := by
    unfold Des.updE
    rw [if_neg (by rw [dd_chk p hp]; decide), if_neg (by show ¬ ((0 : Int) < 0 ∨ (1 : Int) ≤ 0 ∨ (1 : Int) = 0); decide), if_neg]
    unfold Des.movB
    rw [decide_eq_true (by omega)]
    decide
  unfold Des.updD
  rw [if_pos h]
  rfl
theorem dd_num (q : Nat) (hq : q ≤ 128) : Des.numE (DD q) 0 0 = 0 := by
  have h1 : Des.procV (DD q) 0 = 0 := by
    unfold Des.procV
    rw [if_neg (by rw [dd_chk q hq]; decide)]
    rfl
  unfold Des.numE
  rw [if_neg (by rw [h1]; decide), if_neg (by show ¬ ((0 : Int) < 0 ∨ (16 : Int) ≤ 0 ∨ (1 : Int) = 0); decide)]
theorem dd_numV (q : Nat) (hq : q ≤ 128) : Des.numV (DD q) 0 0 = 0 := by
  unfold Des.numV
  rw [if_pos (dd_num q hq)]
  rfl
theorem dd_look (q : Nat) (hq : q ≤ 128) : Des.lookV (DD q) 0 0 = ⟨0, 3, (q : Int), 0, 1⟩ := by
  unfold Des.lookV
  rw [if_pos (dd_num q hq), dd_numV q hq]
  rfl
/-- a model of one file and one process -/
def S1 (scr : List (List Opr)) (q : Nat) (c : ByteArray) (h : List ByteArray) (y : Int) (l : List Int) (k b : Int) : St :=
  { scr := scr, fs := [c], fa := [0], la := [0], d := DD q, ar := [[]], h := [(h, y)], st := [l], fin := [k], bg := [b], tm := 0 }
theorem s1_lk {scr : List (List Opr)} {q : Nat} {c : ByteArray} {h : List ByteArray} {y : Int} {l : List Int} {k b : Int} (hq : q ≤ 128) (m : Int) (hm : andV 3 m = m) : lkE (S1 scr q c h y l k b) 0 0 m = 0 := by
  unfold lkE
  show (if Des.numE (DD q) 0 0 ≠ 0 then Des.numE (DD q) 0 0 else if ((1 : Nat) : Int) ≤ (Des.lookV (DD q) 0 0).fi then 4 else if andV (Des.lookV (DD q) 0 0).fl m ≠ m then 13 else 0) = 0
  rw [dd_num q hq, dd_look q hq, if_neg (by decide)]
  show (if ((1 : Nat) : Int) ≤ 0 then (4 : Int) else if andV 3 m ≠ m then 13 else 0) = 0
  rw [if_neg (by decide), if_neg (by rw [hm]; simp)]
theorem judge_same (k : Int) (w : Res) : judgeV k w w = 0 := by
  have h1 : mk1 k w w = w := by
    unfold mk1
    split
    · rename_i h
      simp only [Bool.and_eq_true, decide_eq_true_eq] at h
      rw [h.1.2] at h
      exact absurd h.2 (by decide)
    · rfl
  have h2 : mk2 k w w = w := by
    unfold mk2
    split
    · rename_i h; omega
    · rfl
  unfold judgeV
  rw [h1, h2]
  unfold cmpV
  rw [if_pos ⟨rfl, rfl, rfl⟩]
theorem put_end (c d : ByteArray) : Con.putS c c.size d = c ++ d := by
  apply Con.bat_ext
  · rw [Con.putS_size, ByteArray.size_append]; omega
  · intro i hi
    rw [Con.putS_size] at hi
    rw [Con.bat_put, Con.bat_append]
    by_cases h : i < c.size
    · rw [if_neg (by omega), if_pos h]
    · rw [if_pos (by omega), if_neg h]
def wrE (i n : Int) : Ev := ⟨0, 0, i, 0, 0, i, 0, n, ⟨#[]⟩⟩
/-- a write at the end of the file -/
theorem s1_write {scr : List (List Opr)} {h : List ByteArray} {c dat : ByteArray} {y : Int} {l : List Int} {i : Nat} {b : Int} (hs : c.size + dat.size ≤ 128) (hd : 0 < dat.size) (ho : opAt (S1 scr c.size c h y l i b) 0 i = wrO dat) (hb : 0 ≤ b ∧ b ≤ i) :
    takeS (S1 scr c.size c h y l i b) (i : Int) (wrE i dat.size) = (0, S1 scr (c.size + dat.size) (c ++ dat) (h ++ [c ++ dat]) y (l ++ [(h.length : Int)]) (i + 1) i) := by
  have hord : ordB (stS (S1 scr c.size c h y l i b)) (i : Int) (wrE i dat.size) = true := by
    unfold ordB
    show (if (0 : Int) = -1 then _ else decide (decide ((i : Int) = 0 ∨ (0 : Int) ≤ 0) = true ∧ (0 : Int) ≤ (i : Int) ∧ (i : Int) ≤ (i : Int) ∧ b ≤ (i : Int) ∧ (i : Int) = (i : Int))) = true
    rw [if_neg (by decide)]
    simp
    omega
  have hst : ordS (stS (S1 scr c.size c h y l i b)) (wrE i dat.size) = S1 scr c.size c h y (l ++ [(h.length : Int)]) (i + 1) i := rfl
  have hw : Con.writeV c (c.size : Int) dat = (c ++ dat, 0) := by rw [Con.write_ok (by omega) hs hd, put_end]
  have hpl : planR (S1 scr c.size c h y (l ++ [(h.length : Int)]) (i + 1) i) 0 (wrO dat) (wrE i dat.size) = (⟨0, (dat.size : Int), ⟨#[]⟩⟩, S1 scr (c.size + dat.size) (c ++ dat) (h ++ [c ++ dat]) y (l ++ [(h.length : Int)]) (i + 1) i) := by
    show writeR (S1 scr c.size c h y (l ++ [(h.length : Int)]) (i + 1) i) 0 (wrO dat) = _
    have e1 : lkE (S1 scr c.size c h y (l ++ [(h.length : Int)]) (i + 1) i) 0 0 2 = 0 := s1_lk (by omega) 2 (by decide)
    have hl := dd_look c.size (by omega)
    have hn := dd_numV c.size (by omega)
    have hi : ¬ (andV 3 4 ≠ 0 ∧ ¬ dat.size = 0) := fun hh => hh.1 (by decide)
    unfold writeR
    simp only [show (S1 scr c.size c h y (l ++ [(h.length : Int)]) (i + 1) i).d = DD c.size from rfl, show (S1 scr c.size c h y (l ++ [(h.length : Int)]) (i + 1) i).fs = [c] from rfl, show (wrO dat).fd = 0 from rfl, show (wrO dat).dat = dat from rfl, Int.natCast_zero, hl, hn, if_neg hi]
    rw [if_neg (show ¬ lkE (S1 scr c.size c h y (l ++ [(h.length : Int)]) (i + 1) i) 0 0 2 ≠ 0 from fun hh => hh e1)]
    have hg : ([c] : List ByteArray).getD (0 : Int).toNat ⟨#[]⟩ = c := rfl
    rw [hg, hw, if_neg (by simp), if_neg (by omega)]
    have hu : Des.updD (DD c.size) 0 ((c.size : Int) + (dat.size : Int)) 0 = DD (c.size + dat.size) := by
      rw [← Int.natCast_add]; exact dd_upd _ _ (by omega) hs
    rw [hu]
    rfl
  unfold takeS
  rw [if_neg (show ¬ (wrE (i : Int) dat.size).pr = -1 from (by decide : ¬ (0 : Int) = -1)), hord, hst]
  have ho2 : opAt (S1 scr c.size c h y l i b) (wrE (i : Int) dat.size).pr.toNat (wrE (i : Int) dat.size).ix.toNat = wrO dat := ho
  rw [ho2]
  have hp0 : (wrE (i : Int) dat.size).pr.toNat = 0 := rfl
  rw [hp0, hpl, if_pos rfl, if_pos (show (wrO dat).kd = 8 ∨ (wrE (i : Int) dat.size).er = 0 from Or.inr rfl)]
  exact congrArg (fun z => (z, _)) (judge_same 4 ⟨0, (dat.size : Int), ⟨#[]⟩⟩)
/-- a synchronisation, with or without an error -/
def syE (i er : Int) : Ev := ⟨0, 0, i, 0, 0, i, er, 0, ⟨#[]⟩⟩
theorem s1_sync {scr : List (List Opr)} {h : List ByteArray} {c : ByteArray} {y : Int} {l : List Int} {q i : Nat} {b er : Int} (hq : q ≤ 128) (he : er = 0 ∨ er = 10) (ho : opAt (S1 scr q c h y l i b) 0 i = syO) (hb : 0 ≤ b ∧ b ≤ i) :
    takeS (S1 scr q c h y l i b) (i : Int) (syE i er) = (0, S1 scr q c h (if er = 0 ∧ i < l.length + 1 then Con.syncV h.length y ((l ++ [(h.length : Int)]).getD i 0 - 1) else y) (l ++ [(h.length : Int)]) (i + 1) i) := by
  have hord : ordB (stS (S1 scr q c h y l i b)) (i : Int) (syE i er) = true := by
    unfold ordB
    show (if (0 : Int) = -1 then _ else decide (decide ((i : Int) = 0 ∨ (0 : Int) ≤ 0) = true ∧ (0 : Int) ≤ (i : Int) ∧ (i : Int) ≤ (i : Int) ∧ b ≤ (i : Int) ∧ (i : Int) = (i : Int))) = true
    rw [if_neg (by decide)]
    simp
    omega
  have hst : ordS (stS (S1 scr q c h y l i b)) (syE i er) = S1 scr q c h y (l ++ [(h.length : Int)]) (i + 1) i := rfl
  have hpl : planR (S1 scr q c h y (l ++ [(h.length : Int)]) (i + 1) i) 0 syO (syE i er) = (⟨0, 0, ⟨#[]⟩⟩, syS (S1 scr q c h y (l ++ [(h.length : Int)]) (i + 1) i) 0 (syE i er)) := by
    show syncR (S1 scr q c h y (l ++ [(h.length : Int)]) (i + 1) i) 0 syO (syE i er) = _
    have e1 : lkE (S1 scr q c h y (l ++ [(h.length : Int)]) (i + 1) i) 0 0 0 = 0 := s1_lk hq 0 (by decide)
    have hl := dd_look q hq
    have hn := dd_numV q hq
    unfold syncR
    simp only [show (S1 scr q c h y (l ++ [(h.length : Int)]) (i + 1) i).d = DD q from rfl, show syO.fd = 0 from rfl, Int.natCast_zero, hl, hn]
    rw [if_neg (show ¬ lkE (S1 scr q c h y (l ++ [(h.length : Int)]) (i + 1) i) 0 0 0 ≠ 0 from fun hh => hh e1)]
    have hu : Des.updD (DD q) 0 (q : Int) ((S1 scr q c h y (l ++ [(h.length : Int)]) (i + 1) i).fa.getD (0 : Int).toNat 0) = DD q := dd_upd _ _ hq hq
    rw [hu]
    rfl
  have hsy : syS (S1 scr q c h y (l ++ [(h.length : Int)]) (i + 1) i) 0 (syE i er) = S1 scr q c h (if er = 0 ∧ i < l.length + 1 then Con.syncV h.length y ((l ++ [(h.length : Int)]).getD i 0 - 1) else y) (l ++ [(h.length : Int)]) (i + 1) i := by
    unfold syS
    by_cases h1 : er = 0 ∧ i < l.length + 1
    · rw [if_pos h1, if_pos]
      · rfl
      · refine ⟨h1.1, Int.natCast_nonneg _, ?_⟩
        show (i : Int) < (((l ++ [(h.length : Int)]).length : Nat) : Int)
        rw [List.length_append, List.length_singleton]
        omega
    · rw [if_neg h1, if_neg]
      intro h2
      refine h1 ⟨h2.1, ?_⟩
      have h3 : (i : Int) < (((l ++ [(h.length : Int)]).length : Nat) : Int) := h2.2.2
      rw [List.length_append, List.length_singleton] at h3
      omega
  unfold takeS
  rw [if_neg (show ¬ (syE (i : Int) er).pr = -1 from (by decide : ¬ (0 : Int) = -1)), hord, hst]
  have ho2 : opAt (S1 scr q c h y l i b) (syE (i : Int) er).pr.toNat (syE (i : Int) er).ix.toNat = syO := ho
  rw [ho2]
  have hp0 : (syE (i : Int) er).pr.toNat = 0 := rfl
  rw [hp0, hpl, if_pos rfl, if_pos (show syO.kd = 8 ∨ (syE (i : Int) er).er = 0 from Or.inl rfl), hsy]
  refine congrArg (fun z => (z, _)) ?_
  rcases he with rfl | rfl <;> rfl
theorem empty_app (a : ByteArray) : (⟨#[]⟩ : ByteArray) ++ a = a := by
  apply Con.bat_ext
  · rw [ByteArray.size_append]; show 0 + a.size = _; omega
  · intro i hi
    rw [Con.bat_append, if_neg (show ¬ i < (⟨#[]⟩ : ByteArray).size from (by show ¬ i < 0; omega))]
    rfl
def syScr (a b : ByteArray) : List (List Opr) := [[awO, wrO a, syO, wrO b]]
def syEv (a b : ByteArray) (er : Int) : List Ev := [wrE 0 0, wrE 1 a.size, syE 2 er, wrE 3 b.size]
theorem sy_open (a b : ByteArray) : takeS (begS (syScr a b) 1 []) 0 (wrE 0 0) = (0, S1 (syScr a b) 0 ⟨#[]⟩ [⟨#[]⟩] 0 [1] 1 0) := by rfl
theorem sy_run (a b : ByteArray) (er : Int) (ha : 0 < a.size ∧ a.size ≤ 9) (hb : 0 < b.size ∧ b.size ≤ 9) (he : er = 0 ∨ er = 10) :
    runS (begS (syScr a b) 1 []) (syEv a b er) 4 = (S1 (syScr a b) (a.size + b.size) (a ++ b) [⟨#[]⟩, a, a ++ b] (if er = 0 then 1 else 0) [1, 1, 2, 2] 4 3, []) := by
  have h0 : runS (begS (syScr a b) 1 []) (syEv a b er) 1 = (S1 (syScr a b) 0 ⟨#[]⟩ [⟨#[]⟩] 0 [1] 1 0, []) := by
    show ((takeS (begS (syScr a b) 1 []) 0 (wrE 0 0)).2, [] ++ if (takeS (begS (syScr a b) 1 []) 0 (wrE 0 0)).1 = 0 then [] else _) = _
    rw [sy_open]
    rfl
  have h1 : runS (begS (syScr a b) 1 []) (syEv a b er) 2 = (S1 (syScr a b) a.size a [⟨#[]⟩, a] 0 [1, 1] 2 1, []) := by
    show ((takeS (runS (begS (syScr a b) 1 []) (syEv a b er) 1).1 1 (wrE 1 a.size)).2, (runS (begS (syScr a b) 1 []) (syEv a b er) 1).2 ++ if (takeS (runS (begS (syScr a b) 1 []) (syEv a b er) 1).1 1 (wrE 1 a.size)).1 = 0 then [] else _) = _
    have e := s1_write (scr := syScr a b) (h := [⟨#[]⟩]) (c := ⟨#[]⟩) (dat := a) (y := 0) (l := [1]) (i := 1) (b := 0) (by show 0 + a.size ≤ 128; omega) ha.1 rfl (by omega)
    have ea := empty_app a
    rw [ea, show (⟨#[]⟩ : ByteArray).size = 0 from rfl, Nat.zero_add] at e
    have e' : takeS (S1 (syScr a b) 0 ⟨#[]⟩ [⟨#[]⟩] 0 [1] 1 0) 1 (wrE 1 a.size) = (0, S1 (syScr a b) a.size a [⟨#[]⟩, a] 0 [1, 1] 2 1) := e
    rw [h0]
    show ((takeS (S1 (syScr a b) 0 ⟨#[]⟩ [⟨#[]⟩] 0 [1] 1 0) 1 (wrE 1 a.size)).2, [] ++ if (takeS (S1 (syScr a b) 0 ⟨#[]⟩ [⟨#[]⟩] 0 [1] 1 0) 1 (wrE 1 a.size)).1 = 0 then [] else _) = _
    rw [e']
    rfl
  have h2 : runS (begS (syScr a b) 1 []) (syEv a b er) 3 = (S1 (syScr a b) a.size a [⟨#[]⟩, a] (if er = 0 then 1 else 0) [1, 1, 2] 3 2, []) := by
    show ((takeS (runS (begS (syScr a b) 1 []) (syEv a b er) 2).1 2 (syE 2 er)).2, (runS (begS (syScr a b) 1 []) (syEv a b er) 2).2 ++ if (takeS (runS (begS (syScr a b) 1 []) (syEv a b er) 2).1 2 (syE 2 er)).1 = 0 then [] else _) = _
    have e := s1_sync (scr := syScr a b) (h := [⟨#[]⟩, a]) (c := a) (y := 0) (l := [1, 1]) (q := a.size) (i := 2) (b := 1) (er := er) (by omega) he rfl (by omega)
    have e' : takeS (S1 (syScr a b) a.size a [⟨#[]⟩, a] 0 [1, 1] 2 1) 2 (syE 2 er) = (0, S1 (syScr a b) a.size a [⟨#[]⟩, a] (if er = 0 then 1 else 0) [1, 1, 2] 3 2) := by
      refine e.trans ?_
      rcases he with rfl | rfl <;> rfl
    rw [h1]
    show ((takeS (S1 (syScr a b) a.size a [⟨#[]⟩, a] 0 [1, 1] 2 1) 2 (syE 2 er)).2, [] ++ if (takeS (S1 (syScr a b) a.size a [⟨#[]⟩, a] 0 [1, 1] 2 1) 2 (syE 2 er)).1 = 0 then [] else _) = _
    rw [e']
    rfl
  show ((takeS (runS (begS (syScr a b) 1 []) (syEv a b er) 3).1 3 (wrE 3 b.size)).2, (runS (begS (syScr a b) 1 []) (syEv a b er) 3).2 ++ if (takeS (runS (begS (syScr a b) 1 []) (syEv a b er) 3).1 3 (wrE 3 b.size)).1 = 0 then [] else _) = _
  have e := s1_write (scr := syScr a b) (h := [⟨#[]⟩, a]) (c := a) (dat := b) (y := if er = 0 then 1 else 0) (l := [1, 1, 2]) (i := 3) (b := 2) (by omega) hb.1 rfl (by omega)
  have e' : takeS (S1 (syScr a b) a.size a [⟨#[]⟩, a] (if er = 0 then 1 else 0) [1, 1, 2] 3 2) 3 (wrE 3 b.size) = (0, S1 (syScr a b) (a.size + b.size) (a ++ b) [⟨#[]⟩, a, a ++ b] (if er = 0 then 1 else 0) [1, 1, 2, 2] 4 3) := e
  rw [h2]
  show ((takeS (S1 (syScr a b) a.size a [⟨#[]⟩, a] (if er = 0 then 1 else 0) [1, 1, 2] 3 2) 3 (wrE 3 b.size)).2, [] ++ if (takeS (S1 (syScr a b) a.size a [⟨#[]⟩, a] (if er = 0 then 1 else 0) [1, 1, 2] 3 2) 3 (wrE 3 b.size)).1 = 0 then [] else _) = _
  rw [e']
  rfl
theorem may_mem {l : List ByteArray} {q : Nat} {s : ByteArray} (hq : q < l.length) (h : s ∈ l.drop q) : Con.mayV l (q : Int) s = true := by
  rw [Con.mayV_in hq, Bool.and_eq_true]
  refine ⟨?_, List.any_eq_true.2 ⟨s, h, by simp⟩⟩
  unfold Con.allTo
  rw [List.all_eq_true]
  intro i _
  exact List.any_eq_true.2 ⟨s, h, by simp⟩
/-- what a crash shows behind the record -/
def syC (a b : ByteArray) (er : Int) (ends : List ByteArray) : List (Int × Int) := crashF 1 (begS (syScr a b) 1 []) (syEv a b er) ends
theorem syC_eq (a b : ByteArray) (er : Int) (ha : 0 < a.size ∧ a.size ≤ 9) (hb : 0 < b.size ∧ b.size ≤ 9) (he : er = 0 ∨ er = 10) (ends : List ByteArray) :
    syC a b er ends = if Con.mayV [⟨#[]⟩, a, a ++ b] (if er = 0 then 1 else 0) (ends.getD 0 ⟨#[]⟩) = true then [] else [(-1, 5)] := by
  unfold syC crashF
  rw [show (syEv a b er).length = 4 from rfl, sy_run a b er ha hb he]
  rfl
section
variable {a b : ByteArray} {er : Int} (ha : 0 < a.size ∧ a.size ≤ 9) (hb : 0 < b.size ∧ b.size ≤ 9) (he : er = 0 ∨ er = 10)
include ha hb he
theorem sy_old : syC a b er [a] = [] := by
  rw [syC_eq a b er ha hb he, if_pos]
  rcases he with rfl | rfl
  · exact may_mem (q := 1) (by simp) (by simp)
  · exact may_mem (q := 0) (by simp) (by simp)
theorem sy_both : syC a b er [a ++ b] = [] := by
  rw [syC_eq a b er ha hb he, if_pos]
  rcases he with rfl | rfl
  · exact may_mem (q := 1) (by simp) (by simp)
  · exact may_mem (q := 0) (by simp) (by simp)
theorem sy_none : syC a b er [] = if er = 0 then [(-1, 5)] else [] := by
  rw [syC_eq a b er ha hb he]
  rcases he with rfl | rfl
  · rw [if_neg, if_pos rfl]
    rw [show (if (0 : Int) = 0 then (1 : Int) else 0) = ((1 : Nat) : Int) from rfl, Con.mayV_in (by simp), Bool.and_eq_true]
    intro h
    have h2 := h.2
    simp [List.getD] at h2
    rcases h2 with h3 | h3
    · have : a.size = 0 := h3
      omega
    · have : a.size + b.size = 0 := h3
      omega
  · rw [if_pos, if_neg (by decide)]
    exact may_mem (q := 0) (by simp) (by simp [List.getD])
theorem sy_part {z : ByteArray} (hz : z.size = b.size) (h0 : ∀ i, Con.bat z i = 0) : syC a b er [a ++ z] = [] := by
  rw [syC_eq a b er ha hb he, if_pos]
  have key : ∀ q : Nat, q ≤ 1 → Con.mayV [⟨#[]⟩, a, a ++ b] (q : Int) (a ++ z) = true := fun q hq => by
    have hm : a ∈ ([⟨#[]⟩, a, a ++ b] : List ByteArray).drop q := by
      rcases q with _ | _ | q
      · simp
      · simp
      · omega
    have hm2 : a ++ b ∈ ([⟨#[]⟩, a, a ++ b] : List ByteArray).drop q := by
      rcases q with _ | _ | q
      · simp
      · simp
      · omega
    rw [Con.mayV_in (by simp; omega), Bool.and_eq_true]
    refine ⟨?_, List.any_eq_true.2 ⟨a ++ b, hm2, by rw [ByteArray.size_append, ByteArray.size_append, hz]; simp⟩⟩
    unfold Con.allTo
    rw [List.all_eq_true]
    intro i _
    refine List.any_eq_true.2 ⟨a, hm, ?_⟩
    rw [Con.bat_append]
    by_cases h : i < a.size
    · rw [if_pos h]; simp
    · rw [if_neg h, h0, Con.bat_out (by omega)]; simp
  show Con.mayV _ (if er = 0 then 1 else 0) (a ++ z) = true
  rcases he with rfl | rfl
  · exact key 1 (by omega)
  · exact key 0 (by omega)
end
end Go.Proofs.YtimhaidiclbnhaaGreat.Ver
