/- The walk of CompleteSmall. -/
import Derived.Test.YtppkbifhhpakgaaWOrder
namespace Go.Proofs.Ytppkbifhhpakgaa
open Go.ChangeShapes Go.WideShapes Go.ChangeAt Go.RowKit

theorem region_calm3 {P : Program} {os : List Oper} {Q : Exit → Act → World → Prop} {id : Nat} {A : Act} {W : World} (Facts : Act → Prop) (T : Array Bool → World → Prop) (vals : List Value) (hm : P.follows .mixedOrders = true) (hc : calmOk os.toArray = true)
    (hf : Facts (putAll os vals A)) (h0 : T (Array.replicate os.length false) W.drew) (hs : ∀ F, Facts F → StepsOk P os.toArray F T 0 os)
    (fin : ∀ l w, T l w → (∀ j, j < os.length → l.getD j false = true) → Q .normal (putAll os vals A) w) : (Code.region id os.toArray true).wp P Q A W :=
  region_calm T vals hm hc rfl h0 (hs _ hf) fin
theorem getD_false {l : Array Bool} {i : Nat} (h : l.getD i true = false) : l.getD i false = false := by
  rcases Nat.lt_or_ge i l.size with h3 | h3
  · simp [h3] at h ⊢; exact h
  · simp [Array.getElem?_eq_none h3] at h
theorem getD_size {l : Array Bool} {i : Nat} (h : l.getD i true = false) : i < l.size := by
  rcases Nat.lt_or_ge i l.size with h3 | h3
  · exact h3
  · simp [Array.getElem?_eq_none h3] at h
theorem getD_set_at {l : Array Bool} {i : Nat} (h : i < l.size) : (l.setIfInBounds i true).getD i false = true := by simp [h]
def predsOf (ops : Array Oper) (s : Nat) : List Nat := match ops[s]? with
  | some o => (o.after.toList.filter (fun e => Region.binds .any e)).map (fun e => e.on)
  | none => []
def upTo (ops : Array Oper) : Nat → List Nat → List Nat → List Nat
  | 0, _, acc => acc
  | _ + 1, [], acc => acc
  | n + 1, s :: todo, acc => if acc.contains s then upTo ops n todo acc else upTo ops n (predsOf ops s ++ todo) (s :: acc)
theorem upTo_listed {ops : Array Oper} {l : Array Bool} (hcl : Closed ops l) : ∀ (n : Nat) (todo acc : List Nat), (∀ s ∈ todo, l.getD s false = true) → (∀ s ∈ acc, l.getD s false = true) → ∀ s ∈ upTo ops n todo acc, l.getD s false = true
  | 0, _, acc, _, ha => ha
  | _ + 1, [], acc, _, ha => ha
  | n + 1, s :: todo, acc, ht, ha => by
    unfold upTo
    split
    · exact upTo_listed hcl n todo acc (fun x hx => ht x (by simp [hx])) ha
    · refine upTo_listed hcl n _ _ (fun x hx => ?_) (fun x hx => ?_)
      · rcases List.mem_append.1 hx with h | h
        · unfold predsOf at h
          cases ho : ops[s]? with
          | none => rw [ho] at h; simp at h
          | some o =>
            rw [ho] at h
            obtain ⟨e, he, rfl⟩ := List.mem_map.1 h
            obtain ⟨h1, h2⟩ := List.mem_filter.1 he
            exact hcl s o ho (ht s (by simp)) e (by simpa using h1) h2
        · exact ht x (by simp [h])
      · rcases List.mem_cons.1 hx with rfl | h
        · exact ht x (by simp)
        · exact ha x h
def waitsT (ops : Array Oper) (s i : Nat) : Bool := (upTo ops 600 [s] []).contains i
theorem not_yetT {ops : Array Oper} {l : Array Bool} {i s : Nat} (hcl : Closed ops l) (hw : waitsT ops s i = true) (hun : l.getD i true = false) : l.getD s false = false := by
  cases hb : l.getD s false with
  | false => rfl
  | true =>
    have h := upTo_listed hcl 600 [s] [] (fun x hx => by simp at hx; subst hx; exact hb) (fun x hx => by simp at hx) i (by unfold waitsT at hw; simpa using hw)
    rw [getD_false hun] at h; cases h
theorem step_pre {P : Program} {ops : Array Oper} {F : Act} {S : Bool → Bool → World → Prop} {i : Nat} {o : Oper} (hw : Region.wanted o (yielded ops F.tmps) = true) (h1 : waitsT ops 44 i = true) (h2 : waitsT ops 45 i = true) (n1 : i ≠ 44) (n2 : i ≠ 45)
    (h : ∀ w, S false false w → ∀ K : Act → World → Prop, (∀ w', S false false w' → K F w') → o.wp P F w K (fun _ _ _ => False)) : StepOk P ops F (fun l => S (l.getD 44 false) (l.getD 45 false)) i o := by
  intro l w hcl hT hun haf
  have e1 := not_yetT hcl h1 hun
  have e2 := not_yetT hcl h2 hun
  rw [e1, e2] at hT
  exact ⟨fun _ => h w hT _ (fun w' hT' => ⟨rfl, by
    show S ((l.setIfInBounds i true).getD 44 false) ((l.setIfInBounds i true).getD 45 false) w'
    rw [getD_set_ne false n1, getD_set_ne false n2, e1, e2]; exact hT'⟩), fun h2 => by rw [hw] at h2; cases h2⟩
theorem heap_cells (b : Nat) : ∀ (vs : List Value) (o : Nat) (w : World) {k : Nat}, k ≠ b → (w.setCells b o vs).heap[k]? = w.heap[k]?
  | [], _, _, _, _ => rfl
  | v :: vs, o, w, k, hk => (heap_cells b vs (o + 1) (w.setCell ⟨b, o, none⟩ v) hk).trans (Below.heap_setCell w ⟨b, o, none⟩ v k hk)
theorem own_far {w : World} {base : Nat} {e : TypeId} {size : Nat} {v : Value} {n : Nat} {xs : List Value} {b o : Nat} {vs : List Value} (h : w.ownsRow base e size v n xs) (hne : ∀ k, v.ownBlock = some k → k ≠ b) : (w.setCells b o vs).ownsRow base e size v n xs := by
  obtain ⟨h1, h2⟩ := h
  refine ⟨h1, ?_⟩
  rcases h2 with h2 | ⟨g, cap, cur, rfl, hg, hh, r⟩
  · exact Or.inl h2
  · exact Or.inr ⟨g, cap, cur, rfl, hg, by rw [heap_cells b vs o w (hne g rfl)]; exact hh, r⟩
theorem partS_size {k c lf er ea off cnt x : Int} {P d : ByteArray} (h : P.size ≤ 1024) : (partS k c lf er ea P off cnt x d).2.2.2.size ≤ 1024 := by
  unfold partS
  repeat' split
  all_goals try exact h
  rename_i hf
  have hb := fits_bd hf
  have e := bl_put P off cnt d
  have h1 := congrArg List.length e
  rw [List.length_append, List.length_append, List.length_take, List.length_drop, bl_len, bl_len, bl_len] at h1
  show (putS P off cnt d).size ≤ 1024
  omega
theorem begP_size {k c : Int} (h : c ≤ 8) : (begP k c).size ≤ 1024 := by
  unfold begP
  split
  · rw [size_zeros]; omega
  · exact Nat.zero_le _
/-- what holds in the region that ends a part twice: which of its two stores have come up -/
def S7 (w : World) (b8 b9 base : Nat) (OPl NPl : List Value) (v : Value) (xs : List Prt) (b44 b45 : Bool) (wq : World) : Prop :=
  Below w.heap.size w wq ∧ At wq b8 (cond b44 NPl OPl) ∧ At wq b9 (cond b45 NPl OPl) ∧ wq.ownsRow base 39 4 v xs.length (flat xs) ∧ base ≤ wq.heap.size
/-- what holds at the head of a round -/
structure SInv (w : World) (b8 b9 : Nat) (k c : Int) (xs : List Prt) (v : Value) (base : Nat) (wr : World) : Prop where
  bel : Below w.heap.size w wr
  pq : ∃ lf er ea P, At wr b8 (PV 3 k c lf er ea P) ∧ At wr b9 (PV 3 k c lf er ea P) ∧ P.size ≤ 1024
  own : wr.ownsRow base 39 4 v xs.length (flat xs)
  hi : base ≤ wr.heap.size
set_option maxRecDepth 100000 in
set_option maxHeartbeats 8000000 in
theorem small_walk (n : Int) (a : Option Addr) (len cap : Nat) (kind : Int) (w : World) (ha : ArgRow w a len) (hl : len ≤ maxLen) :
    Calls Try.prog 4 #[.int .i64 n, .slice a len cap, .int .i64 kind] w (RetW (.bool true) w) := by
  go_enter Try.func4, Try.ntmps4
  go_wp2_with fail
  refine (round_int kind 2 _ (by omega) (by omega)).mono ?_
  rintro e1 w1 ⟨r1, hr10, hr11, rfl, rfl⟩
  have hc1 : IntKind.i64.wrap (1 + r1) = 1 + r1 := IntWalk.i64_in _ (by omega)
  go_wp2_with fail
  refine (round_int n 8 _ (by omega) (by omega)).mono ?_
  rintro e1 w1 ⟨r2, hr20, hr21, rfl, rfl⟩
  have hc2 : IntKind.i64.wrap (1 + r2) = 1 + r2 := IntWalk.i64_in _ (by omega)
  go_upto_region 2 with (fail)
  have hA1 := At.new w (RV 3 (1 + r1) (1 + r2)) 23
  have hB1 : Below w.heap.size w (w.alloc (.cells (RV 3 (1 + r1) (1 + r2)).toArray 23)) := (Below.refl _ _).alloc (Nat.le_refl _) _
  change Code.wp _ _ _ _ (w.alloc (.cells (RV 3 (1 + r1) (1 + r2)).toArray 23))
  have hz1 : (w.alloc (.cells (RV 3 (1 + r1) (1 + r2)).toArray 23)).heap.size = w.heap.size + 1 := by simp
  generalize w.alloc (.cells (RV 3 (1 + r1) (1 + r2)).toArray 23) = w1 at hA1 hB1 hz1 ⊢
  refine region_sweep2 (fun A => 120 ≥ A.tmps.size ∧ 80 < A.tmps.size ∧ A.eval (.tmp 7) = .pointer (some ⟨w.heap.size, 0, none⟩)) (fun A l a wz => ∃ (l0 l1 l2 l3 l4 l5 l6 l7 : Bool) (vp vq x0 x1 x2 x3 : Value), l = #[l0, l1, l2, l3, l4, l5, l6, l7] ∧ a = put4 A vp vq x0 x1 x2 x3 ∧
    TwoInv w w.heap.size (RV 3 (1 + r1) (1 + r2)) (PV 3 (1 + r1) (1 + r2) 0 0 0 (begP (1 + r1) (1 + r2))) (.slice none 0 0) [] w1.heap.size l0 l1 l2 l3 l4 l5 l6 l7 vp vq x0 x1 x2 x3 wz) (by kernel_rfl) ⟨by simp, by simp, rfl⟩ ?_ ?_ ?_
  · refine ⟨false, false, false, false, false, false, false, false, _, _, _, _, _, _, rfl, rfl, ?_⟩
    exact ⟨hB1.drew, hA1.drew, by omega, ⟨rfl, Or.inl ⟨rfl, rfl⟩⟩, fun k hk => by simp [Value.ownBlock] at hk, by omega, Nat.le_refl _, by simp, by simp, by simp, by simp, by simp, by simp, by simp, by simp, by simp⟩
  · rintro A ⟨hA1, hA2, hA3⟩ Q l a wz i ⟨l0, l1, l2, l3, l4, l5, l6, l7, vp, vq, x0, x1, x2, x3, rfl, ha', hJ⟩ hi K hK
    have hA12 := And.intro hA1 hA2
    have hx := (put4_old A vp vq x0 x1 x2 x3 7 (by decide)).trans hA3
    have ga := put4_at0 A vp vq x0 x1 x2 x3 hA12
    have gb := put4_at1 A vp vq x0 x1 x2 x3 hA12
    have g0 := put4_at2 A vp vq x0 x1 x2 x3 hA12
    have g1 := put4_at3 A vp vq x0 x1 x2 x3 hA12
    have g2 := put4_at4 A vp vq x0 x1 x2 x3 hA12
    have g3 := put4_at5 A vp vq x0 x1 x2 x3 hA12
    have pa := fun u => put4_put0 A vp vq x0 x1 x2 x3 u
    have pb := fun u => put4_put1 A vp vq x0 x1 x2 x3 u
    have p0 := fun u => put4_put2 A vp vq x0 x1 x2 x3 u
    have p1 := fun u => put4_put3 A vp vq x0 x1 x2 x3 u
    have p2 := fun u => put4_put4 A vp vq x0 x1 x2 x3 u
    have p3 := fun u => put4_put5 A vp vq x0 x1 x2 x3 u
    rw [← ha'] at hx ga gb g0 g1 g2 g3
    simp only [← ha'] at pa pb p0 p1 p2 p3
    obtain ⟨hun, o, ho, haf⟩ := mem_ready.1 hi
    clear hi hA12 hA1 hA2 hA3
    have ho0 := ho
    rcases i with _ | _ | _ | _ | _ | _ | _ | _ | i
    all_goals simp only [List.getElem?_toArray, List.getElem?_cons_zero, List.getElem?_cons_succ, List.getElem?_nil, Option.some.injEq, reduceCtorEq] at ho
    all_goals subst ho
    all_goals simp [Region.binds] at haf hun
    all_goals refine wpOp_at ho0 rfl ?_
    all_goals clear ho0
    · refine wp_load_rv hJ.req rfl hx ?_
      exact hK _ _ ⟨true, l1, l2, l3, l4, l5, l6, l7, vp, vq, _, x1, x2, x3, rfl, p0 _, hJ.s0⟩
    · have hx := eval_get (g0.trans (hJ.h0 haf))
      have HP := Lib.hid p1
      have HJ := Lib.hid hJ
      clear ha' ga gb g0 g1 g2 g3 pa pb p0 p1 p2 p3 hJ haf hun
      go_simp
      refine (begin_pv _ _ _ _ (by omega) (by omega)).mono ?_
      rintro e w' ⟨rfl, hb⟩
      exact hK _ _ ⟨l0, true, l2, l3, l4, l5, l6, l7, vp, vq, _, _, x2, x3, rfl, HP.out _, (HJ.out.drew hb).s1⟩
    · refine wp_load_rv hJ.req rfl hx ?_
      exact hK _ _ ⟨l0, l1, true, l3, l4, l5, l6, l7, vp, vq, x0, x1, _, x3, rfl, p2 _, hJ.s2⟩
    · have hx := eval_get (g2.trans (hJ.h2 haf.1))
      have HP := Lib.hid p3
      have HJ := Lib.hid hJ
      clear ha' ga gb g0 g1 g2 g3 pa pb p0 p1 p2 p3 hJ haf hun
      go_simp
      refine (rbegin_pv _ _ _ _ (by omega) (by omega)).mono ?_
      rintro e w' ⟨rfl, hb⟩
      exact hK _ _ ⟨l0, l1, l2, true, l4, l5, l6, l7, vp, vq, x0, x1, _, _, rfl, HP.out _, (HJ.out.drew hb).s3⟩
    · have HP := Lib.hid pa
      have HJ := Lib.hid (hJ.s4 hun)
      clear ha' ga gb g0 g1 g2 g3 pa pb p0 p1 p2 p3 hJ haf hun hx
      go_simp
      exact hK _ _ ⟨l0, l1, l2, l3, true, l5, l6, l7, _, vq, x0, x1, x2, x3, rfl, HP.out _, HJ.out⟩
    · have HP := Lib.hid pb
      have HJ := Lib.hid (hJ.s5 hun)
      clear ha' ga gb g0 g1 g2 g3 pa pb p0 p1 p2 p3 hJ haf hun hx
      go_simp
      exact hK _ _ ⟨l0, l1, l2, l3, l4, true, l6, l7, vp, _, x0, x1, x2, x3, rfl, HP.out _, HJ.out⟩
    · have e1 : l1 = true := by simp [haf]
      have e4 : l4 = true := by simp [haf]
      have e5 : l5 = true := by simp [haf]
      subst e4 e5
      obtain ⟨b, cs, rfl, hb, hl16, hAt, _⟩ := hJ.h4 rfl
      refine wp_store_pv hAt hl16 rfl ga (g1.trans (hJ.h1 e1)) ?_
      exact hK _ _ ⟨l0, l1, l2, l3, true, true, true, l7, _, vq, x0, x1, x2, x3, rfl, ha', hJ.s6 rfl⟩
    · have e3 : l3 = true := by simp [haf]
      have e4 : l4 = true := by simp [haf]
      have e5 : l5 = true := by simp [haf]
      subst e4 e5
      obtain ⟨b, cs, rfl, hb, hl16, hAt, _⟩ := hJ.h5 rfl
      refine wp_store_pv hAt hl16 rfl gb (g3.trans (hJ.h3 e3)) ?_
      exact hK _ _ ⟨l0, l1, l2, l3, true, true, l6, true, vp, _, x0, x1, x2, x3, rfl, ha', hJ.s7 rfl⟩
  · rintro l az wz ⟨l0, l1, l2, l3, l4, l5, l6, l7, vp, vq, x0, x1, x2, x3, rfl, rfl, hJ⟩ hr
    have hall := all_up (by kernel_rfl) rfl hr
    have e4 : l4 = true := by simpa using hall 4 (by decide)
    have e5 : l5 = true := by simpa using hall 5 (by decide)
    have e6 : l6 = true := by simpa using hall 6 (by decide)
    have e7 : l7 = true := by simpa using hall 7 (by decide)
    subst e4 e5 e6 e7
    clear hall hr
    obtain ⟨b8, cs8, rfl, hb8, _, hA8, h8⟩ := hJ.h4 rfl
    obtain ⟨b9, cs9, rfl, hb9, _, hA9, h9⟩ := hJ.h5 rfl
    obtain rfl := h8 rfl
    obtain rfl := h9 rfl
    have hne : b8 ≠ b9 := fun e => hJ.ne rfl rfl (by rw [e])
    have hBz := hJ.bel
    have hreq := hJ.req.cell 5 _ rfl
    clear hJ h8 h9 hA1 hB1
    simp only [put4, List.setIfInBounds_toArray, List.set_cons_zero, List.set_cons_succ]
    go_wp2_with fail
    refine (parts_any (1 + r2) a len cap wz (by omega) (by omega) (ha.next hBz) hl).mono ?_
    rintro e2 w2 ⟨v10, xs, rfl, hp2⟩
    have hA8' := hA8.below hp2.bel hA8.hi
    have hA9' := hA9.below hp2.bel hA9.hi
    have hl8 := hA8.hi
    have hl9 := hA9.hi
    have hown2 := hp2.own
    have hch := hp2.chain
    have hn8 := Chain.len hch
    have hbase := hBz.size
    have hinv0 : SInv w b8 b9 (1 + r1) (1 + r2) xs v10 wz.heap.size w2 := ⟨hBz.trans (hp2.bel.mono hBz.size), ⟨_, _, _, _, hA8', hA9', begP_size (by omega)⟩, hown2, hp2.bel.size⟩
    have hol : ∀ k, v10.ownBlock = some k → wz.heap.size ≤ k := fun k hk => (own_block_lt hown2 k hk).1
    obtain ⟨a6, c6z, rfl⟩ : ∃ a6 c6, v10 = .slice a6 xs.length c6 := by
      rcases hown2.2 with ⟨rfl, h⟩ | ⟨g, c, cur, rfl, _⟩
      · exact ⟨_, _, by rw [h]⟩
      · exact ⟨_, _, rfl⟩
    clear hA8 hA9 hp2 hA8' hA9' hown2 hBz hreq
    generalize wz.heap.size = base at hinv0 hol hl8 hl9 hbase
    have HI0 := Lib.hid hinv0
    clear hinv0
    go_wp2_with fail
    go_loopw [11] (fun v11 wr => ∃ i : Nat, v11 = .int .i64 i ∧ i ≤ xs.length ∧ SInv w b8 b9 (1 + r1) (1 + r2) xs (.slice a6 xs.length c6z) base wr) (fun v _ => xs.length - (intOf v).toNat)
    case atStart => exact ⟨0, rfl, Nat.zero_le _, HI0.out⟩
    case round =>
      obtain ⟨i, rfl, hi, hinv⟩ := hrel
      obtain ⟨lf, er, ea, P, hA8, hA9, hP⟩ := hinv.pq
      have hB := hinv.bel
      by_cases hlt : i < xs.length
      · obtain ⟨p, hp⟩ : ∃ p, xs[i]? = some p := ⟨_, List.getElem?_eq_getElem hlt⟩
        have hown := hinv.own
        have hih := hinv.hi
        obtain ⟨g, rfl, _⟩ := part_cell hown i p hp
        have hilt : (i : Int) < (xs.length : Int) := by omega
        have hi0 : (0 : Int) ≤ (i : Int) := by omega
        have HP := Lib.hid hp
        have hcall := fun W0 => part_pv 3 (1 + r1) (1 + r2) lf er ea P p.off p.cnt p.err p.dat W0 (by unfold maxLen; omega) (good_dat (chain_at hch hp).2.2)
        have hcall2 := fun W0 => rpart_pv 3 (1 + r1) (1 + r2) lf er ea P p.off p.cnt p.err p.dat W0 (by unfold maxLen; omega) (good_dat (chain_at hch hp).2.2)
        have hP2 := partS_size (k := 1 + r1) (c := 1 + r2) (lf := lf) (er := er) (ea := ea) (off := p.off) (cnt := p.cnt) (x := p.err) (d := p.dat) hP
        generalize (partS (1 + r1) (1 + r2) lf er ea P p.off p.cnt p.err p.dat).1 = lf2 at hcall hcall2
        generalize (partS (1 + r1) (1 + r2) lf er ea P p.off p.cnt p.err p.dat).2.1 = er2 at hcall hcall2
        generalize (partS (1 + r1) (1 + r2) lf er ea P p.off p.cnt p.err p.dat).2.2.1 = ea2 at hcall hcall2
        generalize (partS (1 + r1) (1 + r2) lf er ea P p.off p.cnt p.err p.dat).2.2.2 = P2 at hcall hcall2 hP2
        clear hinv hp HI0
        go_upto_region 7 with (fail)
        refine region_calm3 (fun F => F.tmps[8]? = some (.pointer (some ⟨b8, 0, none⟩)) ∧ F.tmps[9]? = some (.pointer (some ⟨b9, 0, none⟩)) ∧ F.tmps[10]? = some (.slice (some ⟨g, 0, none⟩) xs.length c6z) ∧ F.tmps[11]? = some (.int .i64 i) ∧ F.tmps[33]? = some (.agg (PV 3 (1 + r1) (1 + r2) lf er ea P).toArray) ∧ F.tmps[34]? = some (.slice (some ⟨g, 0, none⟩) xs.length c6z) ∧ F.tmps[35]? = some (.int .i64 i) ∧ F.tmps[36]? = some (.pointer (some ⟨g, i * 4, none⟩)) ∧ F.tmps[37]? = some (.pointer (some ⟨g, i * 4, none⟩)) ∧ F.tmps[38]? = some (.int .i64 p.off) ∧ F.tmps[39]? = some (.slice (some ⟨g, 0, none⟩) xs.length c6z) ∧ F.tmps[40]? = some (.int .i64 i) ∧ F.tmps[41]? = some (.pointer (some ⟨g, i * 4, none⟩)) ∧ F.tmps[42]? = some (.pointer (some ⟨g, i * 4 + 1, none⟩)) ∧ F.tmps[43]? = some (.int .i64 p.cnt) ∧ F.tmps[44]? = some (.slice (some ⟨g, 0, none⟩) xs.length c6z) ∧ F.tmps[45]? = some (.int .i64 i) ∧ F.tmps[46]? = some (.pointer (some ⟨g, i * 4, none⟩)) ∧ F.tmps[47]? = some (.pointer (some ⟨g, i * 4 + 2, none⟩)) ∧ F.tmps[48]? = some (.int .i64 p.err) ∧ F.tmps[49]? = some (.slice (some ⟨g, 0, none⟩) xs.length c6z) ∧ F.tmps[50]? = some (.int .i64 i) ∧ F.tmps[51]? = some (.pointer (some ⟨g, i * 4, none⟩)) ∧ F.tmps[52]? = some (.pointer (some ⟨g, i * 4 + 3, none⟩)) ∧ F.tmps[53]? = some (.string p.dat) ∧ F.tmps[54]? = some (.agg (PV 3 (1 + r1) (1 + r2) lf2 er2 ea2 P2).toArray) ∧ F.tmps[55]? = some (.agg (PV 3 (1 + r1) (1 + r2) lf er ea P).toArray) ∧ F.tmps[56]? = some (.slice (some ⟨g, 0, none⟩) xs.length c6z) ∧ F.tmps[57]? = some (.int .i64 i) ∧ F.tmps[58]? = some (.pointer (some ⟨g, i * 4, none⟩)) ∧ F.tmps[59]? = some (.pointer (some ⟨g, i * 4, none⟩)) ∧ F.tmps[60]? = some (.int .i64 p.off) ∧ F.tmps[61]? = some (.slice (some ⟨g, 0, none⟩) xs.length c6z) ∧ F.tmps[62]? = some (.int .i64 i) ∧ F.tmps[63]? = some (.pointer (some ⟨g, i * 4, none⟩)) ∧ F.tmps[64]? = some (.pointer (some ⟨g, i * 4 + 1, none⟩)) ∧ F.tmps[65]? = some (.int .i64 p.cnt) ∧ F.tmps[66]? = some (.slice (some ⟨g, 0, none⟩) xs.length c6z) ∧ F.tmps[67]? = some (.int .i64 i) ∧ F.tmps[68]? = some (.pointer (some ⟨g, i * 4, none⟩)) ∧ F.tmps[69]? = some (.pointer (some ⟨g, i * 4 + 2, none⟩)) ∧ F.tmps[70]? = some (.int .i64 p.err) ∧ F.tmps[71]? = some (.slice (some ⟨g, 0, none⟩) xs.length c6z) ∧ F.tmps[72]? = some (.int .i64 i) ∧ F.tmps[73]? = some (.pointer (some ⟨g, i * 4, none⟩)) ∧ F.tmps[74]? = some (.pointer (some ⟨g, i * 4 + 3, none⟩)) ∧ F.tmps[75]? = some (.string p.dat) ∧ F.tmps[76]? = some (.agg (PV 3 (1 + r1) (1 + r2) lf2 er2 ea2 P2).toArray)) (fun l => S7 w b8 b9 base (PV 3 (1 + r1) (1 + r2) lf er ea P) (PV 3 (1 + r1) (1 + r2) lf2 er2 ea2 P2) (.slice (some ⟨g, 0, none⟩) xs.length c6z) xs (l.getD 44 false) (l.getD 45 false))
          [.agg (PV 3 (1 + r1) (1 + r2) lf er ea P).toArray, .slice (some ⟨g, 0, none⟩) xs.length c6z, .int .i64 i, .pointer (some ⟨g, i * 4, none⟩), .pointer (some ⟨g, i * 4, none⟩), .int .i64 p.off, .slice (some ⟨g, 0, none⟩) xs.length c6z, .int .i64 i, .pointer (some ⟨g, i * 4, none⟩), .pointer (some ⟨g, i * 4 + 1, none⟩), .int .i64 p.cnt, .slice (some ⟨g, 0, none⟩) xs.length c6z, .int .i64 i, .pointer (some ⟨g, i * 4, none⟩), .pointer (some ⟨g, i * 4 + 2, none⟩), .int .i64 p.err, .slice (some ⟨g, 0, none⟩) xs.length c6z, .int .i64 i, .pointer (some ⟨g, i * 4, none⟩), .pointer (some ⟨g, i * 4 + 3, none⟩), .string p.dat, .agg (PV 3 (1 + r1) (1 + r2) lf2 er2 ea2 P2).toArray, .agg (PV 3 (1 + r1) (1 + r2) lf er ea P).toArray, .slice (some ⟨g, 0, none⟩) xs.length c6z, .int .i64 i, .pointer (some ⟨g, i * 4, none⟩), .pointer (some ⟨g, i * 4, none⟩), .int .i64 p.off, .slice (some ⟨g, 0, none⟩) xs.length c6z, .int .i64 i, .pointer (some ⟨g, i * 4, none⟩), .pointer (some ⟨g, i * 4 + 1, none⟩), .int .i64 p.cnt, .slice (some ⟨g, 0, none⟩) xs.length c6z, .int .i64 i, .pointer (some ⟨g, i * 4, none⟩), .pointer (some ⟨g, i * 4 + 2, none⟩), .int .i64 p.err, .slice (some ⟨g, 0, none⟩) xs.length c6z, .int .i64 i, .pointer (some ⟨g, i * 4, none⟩), .pointer (some ⟨g, i * 4 + 3, none⟩), .string p.dat, .agg (PV 3 (1 + r1) (1 + r2) lf2 er2 ea2 P2).toArray, undef, undef] (by kernel_rfl) (by kernel_rfl) ?_ ⟨hB.drew, hA8.drew, hA9.drew, own_below hown (Below.drew (Below.refl _ _)) (Nat.le_refl _), hih⟩ ?_ ?_
        · simp only [putAll, Act.put, List.setIfInBounds_toArray, List.set_cons_zero, List.set_cons_succ]
          exact ⟨rfl, rfl, rfl, rfl, rfl, rfl, rfl, rfl, rfl, rfl, rfl, rfl, rfl, rfl, rfl, rfl, rfl, rfl, rfl, rfl, rfl, rfl, rfl, rfl, rfl, rfl, rfl, rfl, rfl, rfl, rfl, rfl, rfl, rfl, rfl, rfl, rfl, rfl, rfl, rfl, rfl, rfl, rfl, rfl, rfl, rfl, rfl, rfl⟩
        · rintro F ⟨f8, f9, f10, f11, f33, f34, f35, f36, f37, f38, f39, f40, f41, f42, f43, f44, f45, f46, f47, f48, f49, f50, f51, f52, f53, f54, f55, f56, f57, f58, f59, f60, f61, f62, f63, f64, f65, f66, f67, f68, f69, f70, f71, f72, f73, f74, f75, f76⟩
          clear hA8 hA9 hB hown
          refine steps_cons ?_ (steps_cons ?_ (steps_cons ?_ (steps_cons ?_ (steps_cons ?_ (steps_cons ?_ (steps_cons ?_ (steps_cons ?_ (steps_cons ?_ (steps_cons ?_ (steps_cons ?_ (steps_cons ?_ (steps_cons ?_ (steps_cons ?_ (steps_cons ?_ (steps_cons ?_ (steps_cons ?_ (steps_cons ?_ (steps_cons ?_ (steps_cons ?_ (steps_cons ?_ (steps_cons ?_ (steps_cons ?_ (steps_cons ?_ (steps_cons ?_ (steps_cons ?_ (steps_cons ?_ (steps_cons ?_ (steps_cons ?_ (steps_cons ?_ (steps_cons ?_ (steps_cons ?_ (steps_cons ?_ (steps_cons ?_ (steps_cons ?_ (steps_cons ?_ (steps_cons ?_ (steps_cons ?_ (steps_cons ?_ (steps_cons ?_ (steps_cons ?_ (steps_cons ?_ (steps_cons ?_ (steps_cons ?_ (steps_cons ?_ (steps_cons ?_ (steps_nil))))))))))))))))))))))))))))))))))))))))))))))
          · refine step_pre (S := S7 w b8 b9 base (PV 3 (1 + r1) (1 + r2) lf er ea P) (PV 3 (1 + r1) (1 + r2) lf2 er2 ea2 P2) (.slice (some ⟨g, 0, none⟩) xs.length c6z) xs) (wanted_none rfl) (by kernel_rfl) (by kernel_rfl) (by decide) (by decide) (fun wq hT K hK => ?_)
            obtain ⟨gB, g8, g9, gO, gz⟩ := hT
            have HK := Lib.hid (hK wq ⟨gB, g8, g9, gO, gz⟩)
            exact wp_load_mid 26 (.tmp 8) rfl b8 0 (by simp [Act.eval, f8]) _ _ g8.r Try.underlying26 rfl size26 (kput (d := 33) f33 HK.out)
          · refine step_pre (S := S7 w b8 b9 base (PV 3 (1 + r1) (1 + r2) lf er ea P) (PV 3 (1 + r1) (1 + r2) lf2 er2 ea2 P2) (.slice (some ⟨g, 0, none⟩) xs.length c6z) xs) (wanted_none rfl) (by kernel_rfl) (by kernel_rfl) (by decide) (by decide) (fun wq hT K hK => ?_)
            obtain ⟨gB, g8, g9, gO, gz⟩ := hT
            have HK := Lib.hid (hK wq ⟨gB, g8, g9, gO, gz⟩)
            clear hK g8 g9 gB gO hcall hcall2
            go_simp
            exact kput (d := 34) f34 HK.out
          · refine step_pre (S := S7 w b8 b9 base (PV 3 (1 + r1) (1 + r2) lf er ea P) (PV 3 (1 + r1) (1 + r2) lf2 er2 ea2 P2) (.slice (some ⟨g, 0, none⟩) xs.length c6z) xs) (wanted_none rfl) (by kernel_rfl) (by kernel_rfl) (by decide) (by decide) (fun wq hT K hK => ?_)
            obtain ⟨gB, g8, g9, gO, gz⟩ := hT
            have HK := Lib.hid (hK wq ⟨gB, g8, g9, gO, gz⟩)
            clear hK g8 g9 gB gO hcall hcall2
            go_simp
            exact kput (d := 35) f35 HK.out
          · refine step_pre (S := S7 w b8 b9 base (PV 3 (1 + r1) (1 + r2) lf er ea P) (PV 3 (1 + r1) (1 + r2) lf2 er2 ea2 P2) (.slice (some ⟨g, 0, none⟩) xs.length c6z) xs) (wanted_none rfl) (by kernel_rfl) (by kernel_rfl) (by decide) (by decide) (fun wq hT K hK => ?_)
            obtain ⟨gB, g8, g9, gO, gz⟩ := hT
            have HK := Lib.hid (hK wq ⟨gB, g8, g9, gO, gz⟩)
            clear hK g8 g9 gB gO hcall hcall2
            go_simp
            exact kput (d := 36) f36 HK.out
          · refine step_pre (S := S7 w b8 b9 base (PV 3 (1 + r1) (1 + r2) lf er ea P) (PV 3 (1 + r1) (1 + r2) lf2 er2 ea2 P2) (.slice (some ⟨g, 0, none⟩) xs.length c6z) xs) (wanted_none rfl) (by kernel_rfl) (by kernel_rfl) (by decide) (by decide) (fun wq hT K hK => ?_)
            obtain ⟨gB, g8, g9, gO, gz⟩ := hT
            have HK := Lib.hid (hK wq ⟨gB, g8, g9, gO, gz⟩)
            clear hK g8 g9 gB gO hcall hcall2
            go_simp
            exact kput (d := 37) f37 HK.out
          · refine step_pre (S := S7 w b8 b9 base (PV 3 (1 + r1) (1 + r2) lf er ea P) (PV 3 (1 + r1) (1 + r2) lf2 er2 ea2 P2) (.slice (some ⟨g, 0, none⟩) xs.length c6z) xs) (wanted_none rfl) (by kernel_rfl) (by kernel_rfl) (by decide) (by decide) (fun wq hT K hK => ?_)
            obtain ⟨gB, g8, g9, gO, gz⟩ := hT
            have HK := Lib.hid (hK wq ⟨gB, g8, g9, gO, gz⟩)
            obtain ⟨g', hgg, _, _, _, k0, k1, k2, k3⟩ := part_cell gO i p HP.out
            obtain rfl : g = g' := by simpa using hgg
            clear hK g8 g9 gB gO hgg hcall hcall2
            go_simp
            exact kput (d := 38) f38 HK.out
          · refine step_pre (S := S7 w b8 b9 base (PV 3 (1 + r1) (1 + r2) lf er ea P) (PV 3 (1 + r1) (1 + r2) lf2 er2 ea2 P2) (.slice (some ⟨g, 0, none⟩) xs.length c6z) xs) (wanted_none rfl) (by kernel_rfl) (by kernel_rfl) (by decide) (by decide) (fun wq hT K hK => ?_)
            obtain ⟨gB, g8, g9, gO, gz⟩ := hT
            have HK := Lib.hid (hK wq ⟨gB, g8, g9, gO, gz⟩)
            clear hK g8 g9 gB gO hcall hcall2
            go_simp
            exact kput (d := 39) f39 HK.out
          · refine step_pre (S := S7 w b8 b9 base (PV 3 (1 + r1) (1 + r2) lf er ea P) (PV 3 (1 + r1) (1 + r2) lf2 er2 ea2 P2) (.slice (some ⟨g, 0, none⟩) xs.length c6z) xs) (wanted_none rfl) (by kernel_rfl) (by kernel_rfl) (by decide) (by decide) (fun wq hT K hK => ?_)
            obtain ⟨gB, g8, g9, gO, gz⟩ := hT
            have HK := Lib.hid (hK wq ⟨gB, g8, g9, gO, gz⟩)
            clear hK g8 g9 gB gO hcall hcall2
            go_simp
            exact kput (d := 40) f40 HK.out
          · refine step_pre (S := S7 w b8 b9 base (PV 3 (1 + r1) (1 + r2) lf er ea P) (PV 3 (1 + r1) (1 + r2) lf2 er2 ea2 P2) (.slice (some ⟨g, 0, none⟩) xs.length c6z) xs) (wanted_none rfl) (by kernel_rfl) (by kernel_rfl) (by decide) (by decide) (fun wq hT K hK => ?_)
            obtain ⟨gB, g8, g9, gO, gz⟩ := hT
            have HK := Lib.hid (hK wq ⟨gB, g8, g9, gO, gz⟩)
            clear hK g8 g9 gB gO hcall hcall2
            go_simp
            exact kput (d := 41) f41 HK.out
          · refine step_pre (S := S7 w b8 b9 base (PV 3 (1 + r1) (1 + r2) lf er ea P) (PV 3 (1 + r1) (1 + r2) lf2 er2 ea2 P2) (.slice (some ⟨g, 0, none⟩) xs.length c6z) xs) (wanted_none rfl) (by kernel_rfl) (by kernel_rfl) (by decide) (by decide) (fun wq hT K hK => ?_)
            obtain ⟨gB, g8, g9, gO, gz⟩ := hT
            have HK := Lib.hid (hK wq ⟨gB, g8, g9, gO, gz⟩)
            clear hK g8 g9 gB gO hcall hcall2
            go_simp
            exact kput (d := 42) f42 HK.out
          · refine step_pre (S := S7 w b8 b9 base (PV 3 (1 + r1) (1 + r2) lf er ea P) (PV 3 (1 + r1) (1 + r2) lf2 er2 ea2 P2) (.slice (some ⟨g, 0, none⟩) xs.length c6z) xs) (wanted_none rfl) (by kernel_rfl) (by kernel_rfl) (by decide) (by decide) (fun wq hT K hK => ?_)
            obtain ⟨gB, g8, g9, gO, gz⟩ := hT
            have HK := Lib.hid (hK wq ⟨gB, g8, g9, gO, gz⟩)
            obtain ⟨g', hgg, _, _, _, k0, k1, k2, k3⟩ := part_cell gO i p HP.out
            obtain rfl : g = g' := by simpa using hgg
            clear hK g8 g9 gB gO hgg hcall hcall2
            go_simp
            exact kput (d := 43) f43 HK.out
          · refine step_pre (S := S7 w b8 b9 base (PV 3 (1 + r1) (1 + r2) lf er ea P) (PV 3 (1 + r1) (1 + r2) lf2 er2 ea2 P2) (.slice (some ⟨g, 0, none⟩) xs.length c6z) xs) (wanted_none rfl) (by kernel_rfl) (by kernel_rfl) (by decide) (by decide) (fun wq hT K hK => ?_)
            obtain ⟨gB, g8, g9, gO, gz⟩ := hT
            have HK := Lib.hid (hK wq ⟨gB, g8, g9, gO, gz⟩)
            clear hK g8 g9 gB gO hcall hcall2
            go_simp
            exact kput (d := 44) f44 HK.out
          · refine step_pre (S := S7 w b8 b9 base (PV 3 (1 + r1) (1 + r2) lf er ea P) (PV 3 (1 + r1) (1 + r2) lf2 er2 ea2 P2) (.slice (some ⟨g, 0, none⟩) xs.length c6z) xs) (wanted_none rfl) (by kernel_rfl) (by kernel_rfl) (by decide) (by decide) (fun wq hT K hK => ?_)
            obtain ⟨gB, g8, g9, gO, gz⟩ := hT
            have HK := Lib.hid (hK wq ⟨gB, g8, g9, gO, gz⟩)
            clear hK g8 g9 gB gO hcall hcall2
            go_simp
            exact kput (d := 45) f45 HK.out
          · refine step_pre (S := S7 w b8 b9 base (PV 3 (1 + r1) (1 + r2) lf er ea P) (PV 3 (1 + r1) (1 + r2) lf2 er2 ea2 P2) (.slice (some ⟨g, 0, none⟩) xs.length c6z) xs) (wanted_none rfl) (by kernel_rfl) (by kernel_rfl) (by decide) (by decide) (fun wq hT K hK => ?_)
            obtain ⟨gB, g8, g9, gO, gz⟩ := hT
            have HK := Lib.hid (hK wq ⟨gB, g8, g9, gO, gz⟩)
            clear hK g8 g9 gB gO hcall hcall2
            go_simp
            exact kput (d := 46) f46 HK.out
          · refine step_pre (S := S7 w b8 b9 base (PV 3 (1 + r1) (1 + r2) lf er ea P) (PV 3 (1 + r1) (1 + r2) lf2 er2 ea2 P2) (.slice (some ⟨g, 0, none⟩) xs.length c6z) xs) (wanted_none rfl) (by kernel_rfl) (by kernel_rfl) (by decide) (by decide) (fun wq hT K hK => ?_)
            obtain ⟨gB, g8, g9, gO, gz⟩ := hT
            have HK := Lib.hid (hK wq ⟨gB, g8, g9, gO, gz⟩)
            clear hK g8 g9 gB gO hcall hcall2
            go_simp
            exact kput (d := 47) f47 HK.out
          · refine step_pre (S := S7 w b8 b9 base (PV 3 (1 + r1) (1 + r2) lf er ea P) (PV 3 (1 + r1) (1 + r2) lf2 er2 ea2 P2) (.slice (some ⟨g, 0, none⟩) xs.length c6z) xs) (wanted_none rfl) (by kernel_rfl) (by kernel_rfl) (by decide) (by decide) (fun wq hT K hK => ?_)
            obtain ⟨gB, g8, g9, gO, gz⟩ := hT
            have HK := Lib.hid (hK wq ⟨gB, g8, g9, gO, gz⟩)
            obtain ⟨g', hgg, _, _, _, k0, k1, k2, k3⟩ := part_cell gO i p HP.out
            obtain rfl : g = g' := by simpa using hgg
            clear hK g8 g9 gB gO hgg hcall hcall2
            go_simp
            exact kput (d := 48) f48 HK.out
          · refine step_pre (S := S7 w b8 b9 base (PV 3 (1 + r1) (1 + r2) lf er ea P) (PV 3 (1 + r1) (1 + r2) lf2 er2 ea2 P2) (.slice (some ⟨g, 0, none⟩) xs.length c6z) xs) (wanted_none rfl) (by kernel_rfl) (by kernel_rfl) (by decide) (by decide) (fun wq hT K hK => ?_)
            obtain ⟨gB, g8, g9, gO, gz⟩ := hT
            have HK := Lib.hid (hK wq ⟨gB, g8, g9, gO, gz⟩)
            clear hK g8 g9 gB gO hcall hcall2
            go_simp
            exact kput (d := 49) f49 HK.out
          · refine step_pre (S := S7 w b8 b9 base (PV 3 (1 + r1) (1 + r2) lf er ea P) (PV 3 (1 + r1) (1 + r2) lf2 er2 ea2 P2) (.slice (some ⟨g, 0, none⟩) xs.length c6z) xs) (wanted_none rfl) (by kernel_rfl) (by kernel_rfl) (by decide) (by decide) (fun wq hT K hK => ?_)
            obtain ⟨gB, g8, g9, gO, gz⟩ := hT
            have HK := Lib.hid (hK wq ⟨gB, g8, g9, gO, gz⟩)
            clear hK g8 g9 gB gO hcall hcall2
            go_simp
            exact kput (d := 50) f50 HK.out
          · refine step_pre (S := S7 w b8 b9 base (PV 3 (1 + r1) (1 + r2) lf er ea P) (PV 3 (1 + r1) (1 + r2) lf2 er2 ea2 P2) (.slice (some ⟨g, 0, none⟩) xs.length c6z) xs) (wanted_none rfl) (by kernel_rfl) (by kernel_rfl) (by decide) (by decide) (fun wq hT K hK => ?_)
            obtain ⟨gB, g8, g9, gO, gz⟩ := hT
            have HK := Lib.hid (hK wq ⟨gB, g8, g9, gO, gz⟩)
            clear hK g8 g9 gB gO hcall hcall2
            go_simp
            exact kput (d := 51) f51 HK.out
          · refine step_pre (S := S7 w b8 b9 base (PV 3 (1 + r1) (1 + r2) lf er ea P) (PV 3 (1 + r1) (1 + r2) lf2 er2 ea2 P2) (.slice (some ⟨g, 0, none⟩) xs.length c6z) xs) (wanted_none rfl) (by kernel_rfl) (by kernel_rfl) (by decide) (by decide) (fun wq hT K hK => ?_)
            obtain ⟨gB, g8, g9, gO, gz⟩ := hT
            have HK := Lib.hid (hK wq ⟨gB, g8, g9, gO, gz⟩)
            clear hK g8 g9 gB gO hcall hcall2
            go_simp
            exact kput (d := 52) f52 HK.out
          · refine step_pre (S := S7 w b8 b9 base (PV 3 (1 + r1) (1 + r2) lf er ea P) (PV 3 (1 + r1) (1 + r2) lf2 er2 ea2 P2) (.slice (some ⟨g, 0, none⟩) xs.length c6z) xs) (wanted_none rfl) (by kernel_rfl) (by kernel_rfl) (by decide) (by decide) (fun wq hT K hK => ?_)
            obtain ⟨gB, g8, g9, gO, gz⟩ := hT
            have HK := Lib.hid (hK wq ⟨gB, g8, g9, gO, gz⟩)
            obtain ⟨g', hgg, _, _, _, k0, k1, k2, k3⟩ := part_cell gO i p HP.out
            obtain rfl : g = g' := by simpa using hgg
            clear hK g8 g9 gB gO hgg hcall hcall2
            go_simp
            exact kput (d := 53) f53 HK.out
          · refine step_pre (S := S7 w b8 b9 base (PV 3 (1 + r1) (1 + r2) lf er ea P) (PV 3 (1 + r1) (1 + r2) lf2 er2 ea2 P2) (.slice (some ⟨g, 0, none⟩) xs.length c6z) xs) (wanted_none rfl) (by kernel_rfl) (by kernel_rfl) (by decide) (by decide) (fun wq hT K hK => ?_)
            obtain ⟨gB, g8, g9, gO, gz⟩ := hT
            have HK := Lib.hid (hK wq ⟨gB, g8, g9, gO, gz⟩)
            have HKK := Lib.hid hK
            have G8 := Lib.hid g8
            have G9 := Lib.hid g9
            have GO := Lib.hid gO
            have HCC := Lib.hid hcall
            clear hK g8 g9 gO HK hcall hcall2
            go_simp
            refine (HCC.out _).mono ?_
            rintro e w' ⟨rfl, hb⟩
            exact kput (d := 54) f54 (HKK.out w' ⟨gB.trans (hb.mono gB.size), G8.out.below hb G8.out.hi, G9.out.below hb G9.out.hi, own_below GO.out hb (Nat.le_refl _), Nat.le_trans gz hb.size⟩)
          · refine step_pre (S := S7 w b8 b9 base (PV 3 (1 + r1) (1 + r2) lf er ea P) (PV 3 (1 + r1) (1 + r2) lf2 er2 ea2 P2) (.slice (some ⟨g, 0, none⟩) xs.length c6z) xs) (wanted_none rfl) (by kernel_rfl) (by kernel_rfl) (by decide) (by decide) (fun wq hT K hK => ?_)
            obtain ⟨gB, g8, g9, gO, gz⟩ := hT
            have HK := Lib.hid (hK wq ⟨gB, g8, g9, gO, gz⟩)
            exact wp_load_mid 26 (.tmp 9) rfl b9 0 (by simp [Act.eval, f9]) _ _ g9.r Try.underlying26 rfl size26 (kput (d := 55) f55 HK.out)
          · refine step_pre (S := S7 w b8 b9 base (PV 3 (1 + r1) (1 + r2) lf er ea P) (PV 3 (1 + r1) (1 + r2) lf2 er2 ea2 P2) (.slice (some ⟨g, 0, none⟩) xs.length c6z) xs) (wanted_none rfl) (by kernel_rfl) (by kernel_rfl) (by decide) (by decide) (fun wq hT K hK => ?_)
            obtain ⟨gB, g8, g9, gO, gz⟩ := hT
            have HK := Lib.hid (hK wq ⟨gB, g8, g9, gO, gz⟩)
            clear hK g8 g9 gB gO hcall hcall2
            go_simp
            exact kput (d := 56) f56 HK.out
          · refine step_pre (S := S7 w b8 b9 base (PV 3 (1 + r1) (1 + r2) lf er ea P) (PV 3 (1 + r1) (1 + r2) lf2 er2 ea2 P2) (.slice (some ⟨g, 0, none⟩) xs.length c6z) xs) (wanted_none rfl) (by kernel_rfl) (by kernel_rfl) (by decide) (by decide) (fun wq hT K hK => ?_)
            obtain ⟨gB, g8, g9, gO, gz⟩ := hT
            have HK := Lib.hid (hK wq ⟨gB, g8, g9, gO, gz⟩)
            clear hK g8 g9 gB gO hcall hcall2
            go_simp
            exact kput (d := 57) f57 HK.out
          · refine step_pre (S := S7 w b8 b9 base (PV 3 (1 + r1) (1 + r2) lf er ea P) (PV 3 (1 + r1) (1 + r2) lf2 er2 ea2 P2) (.slice (some ⟨g, 0, none⟩) xs.length c6z) xs) (wanted_none rfl) (by kernel_rfl) (by kernel_rfl) (by decide) (by decide) (fun wq hT K hK => ?_)
            obtain ⟨gB, g8, g9, gO, gz⟩ := hT
            have HK := Lib.hid (hK wq ⟨gB, g8, g9, gO, gz⟩)
            clear hK g8 g9 gB gO hcall hcall2
            go_simp
            exact kput (d := 58) f58 HK.out
          · refine step_pre (S := S7 w b8 b9 base (PV 3 (1 + r1) (1 + r2) lf er ea P) (PV 3 (1 + r1) (1 + r2) lf2 er2 ea2 P2) (.slice (some ⟨g, 0, none⟩) xs.length c6z) xs) (wanted_none rfl) (by kernel_rfl) (by kernel_rfl) (by decide) (by decide) (fun wq hT K hK => ?_)
            obtain ⟨gB, g8, g9, gO, gz⟩ := hT
            have HK := Lib.hid (hK wq ⟨gB, g8, g9, gO, gz⟩)
            clear hK g8 g9 gB gO hcall hcall2
            go_simp
            exact kput (d := 59) f59 HK.out
          · refine step_pre (S := S7 w b8 b9 base (PV 3 (1 + r1) (1 + r2) lf er ea P) (PV 3 (1 + r1) (1 + r2) lf2 er2 ea2 P2) (.slice (some ⟨g, 0, none⟩) xs.length c6z) xs) (wanted_none rfl) (by kernel_rfl) (by kernel_rfl) (by decide) (by decide) (fun wq hT K hK => ?_)
            obtain ⟨gB, g8, g9, gO, gz⟩ := hT
            have HK := Lib.hid (hK wq ⟨gB, g8, g9, gO, gz⟩)
            obtain ⟨g', hgg, _, _, _, k0, k1, k2, k3⟩ := part_cell gO i p HP.out
            obtain rfl : g = g' := by simpa using hgg
            clear hK g8 g9 gB gO hgg hcall hcall2
            go_simp
            exact kput (d := 60) f60 HK.out
          · refine step_pre (S := S7 w b8 b9 base (PV 3 (1 + r1) (1 + r2) lf er ea P) (PV 3 (1 + r1) (1 + r2) lf2 er2 ea2 P2) (.slice (some ⟨g, 0, none⟩) xs.length c6z) xs) (wanted_none rfl) (by kernel_rfl) (by kernel_rfl) (by decide) (by decide) (fun wq hT K hK => ?_)
            obtain ⟨gB, g8, g9, gO, gz⟩ := hT
            have HK := Lib.hid (hK wq ⟨gB, g8, g9, gO, gz⟩)
            clear hK g8 g9 gB gO hcall hcall2
            go_simp
            exact kput (d := 61) f61 HK.out
          · refine step_pre (S := S7 w b8 b9 base (PV 3 (1 + r1) (1 + r2) lf er ea P) (PV 3 (1 + r1) (1 + r2) lf2 er2 ea2 P2) (.slice (some ⟨g, 0, none⟩) xs.length c6z) xs) (wanted_none rfl) (by kernel_rfl) (by kernel_rfl) (by decide) (by decide) (fun wq hT K hK => ?_)
            obtain ⟨gB, g8, g9, gO, gz⟩ := hT
            have HK := Lib.hid (hK wq ⟨gB, g8, g9, gO, gz⟩)
            clear hK g8 g9 gB gO hcall hcall2
            go_simp
            exact kput (d := 62) f62 HK.out
          · refine step_pre (S := S7 w b8 b9 base (PV 3 (1 + r1) (1 + r2) lf er ea P) (PV 3 (1 + r1) (1 + r2) lf2 er2 ea2 P2) (.slice (some ⟨g, 0, none⟩) xs.length c6z) xs) (wanted_none rfl) (by kernel_rfl) (by kernel_rfl) (by decide) (by decide) (fun wq hT K hK => ?_)
            obtain ⟨gB, g8, g9, gO, gz⟩ := hT
            have HK := Lib.hid (hK wq ⟨gB, g8, g9, gO, gz⟩)
            clear hK g8 g9 gB gO hcall hcall2
            go_simp
            exact kput (d := 63) f63 HK.out
          · refine step_pre (S := S7 w b8 b9 base (PV 3 (1 + r1) (1 + r2) lf er ea P) (PV 3 (1 + r1) (1 + r2) lf2 er2 ea2 P2) (.slice (some ⟨g, 0, none⟩) xs.length c6z) xs) (wanted_none rfl) (by kernel_rfl) (by kernel_rfl) (by decide) (by decide) (fun wq hT K hK => ?_)
            obtain ⟨gB, g8, g9, gO, gz⟩ := hT
            have HK := Lib.hid (hK wq ⟨gB, g8, g9, gO, gz⟩)
            clear hK g8 g9 gB gO hcall hcall2
            go_simp
            exact kput (d := 64) f64 HK.out
          · refine step_pre (S := S7 w b8 b9 base (PV 3 (1 + r1) (1 + r2) lf er ea P) (PV 3 (1 + r1) (1 + r2) lf2 er2 ea2 P2) (.slice (some ⟨g, 0, none⟩) xs.length c6z) xs) (wanted_none rfl) (by kernel_rfl) (by kernel_rfl) (by decide) (by decide) (fun wq hT K hK => ?_)
            obtain ⟨gB, g8, g9, gO, gz⟩ := hT
            have HK := Lib.hid (hK wq ⟨gB, g8, g9, gO, gz⟩)
            obtain ⟨g', hgg, _, _, _, k0, k1, k2, k3⟩ := part_cell gO i p HP.out
            obtain rfl : g = g' := by simpa using hgg
            clear hK g8 g9 gB gO hgg hcall hcall2
            go_simp
            exact kput (d := 65) f65 HK.out
          · refine step_pre (S := S7 w b8 b9 base (PV 3 (1 + r1) (1 + r2) lf er ea P) (PV 3 (1 + r1) (1 + r2) lf2 er2 ea2 P2) (.slice (some ⟨g, 0, none⟩) xs.length c6z) xs) (wanted_none rfl) (by kernel_rfl) (by kernel_rfl) (by decide) (by decide) (fun wq hT K hK => ?_)
            obtain ⟨gB, g8, g9, gO, gz⟩ := hT
            have HK := Lib.hid (hK wq ⟨gB, g8, g9, gO, gz⟩)
            clear hK g8 g9 gB gO hcall hcall2
            go_simp
            exact kput (d := 66) f66 HK.out
          · refine step_pre (S := S7 w b8 b9 base (PV 3 (1 + r1) (1 + r2) lf er ea P) (PV 3 (1 + r1) (1 + r2) lf2 er2 ea2 P2) (.slice (some ⟨g, 0, none⟩) xs.length c6z) xs) (wanted_none rfl) (by kernel_rfl) (by kernel_rfl) (by decide) (by decide) (fun wq hT K hK => ?_)
            obtain ⟨gB, g8, g9, gO, gz⟩ := hT
            have HK := Lib.hid (hK wq ⟨gB, g8, g9, gO, gz⟩)
            clear hK g8 g9 gB gO hcall hcall2
            go_simp
            exact kput (d := 67) f67 HK.out
          · refine step_pre (S := S7 w b8 b9 base (PV 3 (1 + r1) (1 + r2) lf er ea P) (PV 3 (1 + r1) (1 + r2) lf2 er2 ea2 P2) (.slice (some ⟨g, 0, none⟩) xs.length c6z) xs) (wanted_none rfl) (by kernel_rfl) (by kernel_rfl) (by decide) (by decide) (fun wq hT K hK => ?_)
            obtain ⟨gB, g8, g9, gO, gz⟩ := hT
            have HK := Lib.hid (hK wq ⟨gB, g8, g9, gO, gz⟩)
            clear hK g8 g9 gB gO hcall hcall2
            go_simp
            exact kput (d := 68) f68 HK.out
          · refine step_pre (S := S7 w b8 b9 base (PV 3 (1 + r1) (1 + r2) lf er ea P) (PV 3 (1 + r1) (1 + r2) lf2 er2 ea2 P2) (.slice (some ⟨g, 0, none⟩) xs.length c6z) xs) (wanted_none rfl) (by kernel_rfl) (by kernel_rfl) (by decide) (by decide) (fun wq hT K hK => ?_)
            obtain ⟨gB, g8, g9, gO, gz⟩ := hT
            have HK := Lib.hid (hK wq ⟨gB, g8, g9, gO, gz⟩)
            clear hK g8 g9 gB gO hcall hcall2
            go_simp
            exact kput (d := 69) f69 HK.out
          · refine step_pre (S := S7 w b8 b9 base (PV 3 (1 + r1) (1 + r2) lf er ea P) (PV 3 (1 + r1) (1 + r2) lf2 er2 ea2 P2) (.slice (some ⟨g, 0, none⟩) xs.length c6z) xs) (wanted_none rfl) (by kernel_rfl) (by kernel_rfl) (by decide) (by decide) (fun wq hT K hK => ?_)
            obtain ⟨gB, g8, g9, gO, gz⟩ := hT
            have HK := Lib.hid (hK wq ⟨gB, g8, g9, gO, gz⟩)
            obtain ⟨g', hgg, _, _, _, k0, k1, k2, k3⟩ := part_cell gO i p HP.out
            obtain rfl : g = g' := by simpa using hgg
            clear hK g8 g9 gB gO hgg hcall hcall2
            go_simp
            exact kput (d := 70) f70 HK.out
          · refine step_pre (S := S7 w b8 b9 base (PV 3 (1 + r1) (1 + r2) lf er ea P) (PV 3 (1 + r1) (1 + r2) lf2 er2 ea2 P2) (.slice (some ⟨g, 0, none⟩) xs.length c6z) xs) (wanted_none rfl) (by kernel_rfl) (by kernel_rfl) (by decide) (by decide) (fun wq hT K hK => ?_)
            obtain ⟨gB, g8, g9, gO, gz⟩ := hT
            have HK := Lib.hid (hK wq ⟨gB, g8, g9, gO, gz⟩)
            clear hK g8 g9 gB gO hcall hcall2
            go_simp
            exact kput (d := 71) f71 HK.out
          · refine step_pre (S := S7 w b8 b9 base (PV 3 (1 + r1) (1 + r2) lf er ea P) (PV 3 (1 + r1) (1 + r2) lf2 er2 ea2 P2) (.slice (some ⟨g, 0, none⟩) xs.length c6z) xs) (wanted_none rfl) (by kernel_rfl) (by kernel_rfl) (by decide) (by decide) (fun wq hT K hK => ?_)
            obtain ⟨gB, g8, g9, gO, gz⟩ := hT
            have HK := Lib.hid (hK wq ⟨gB, g8, g9, gO, gz⟩)
            clear hK g8 g9 gB gO hcall hcall2
            go_simp
            exact kput (d := 72) f72 HK.out
          · refine step_pre (S := S7 w b8 b9 base (PV 3 (1 + r1) (1 + r2) lf er ea P) (PV 3 (1 + r1) (1 + r2) lf2 er2 ea2 P2) (.slice (some ⟨g, 0, none⟩) xs.length c6z) xs) (wanted_none rfl) (by kernel_rfl) (by kernel_rfl) (by decide) (by decide) (fun wq hT K hK => ?_)
            obtain ⟨gB, g8, g9, gO, gz⟩ := hT
            have HK := Lib.hid (hK wq ⟨gB, g8, g9, gO, gz⟩)
            clear hK g8 g9 gB gO hcall hcall2
            go_simp
            exact kput (d := 73) f73 HK.out
          · refine step_pre (S := S7 w b8 b9 base (PV 3 (1 + r1) (1 + r2) lf er ea P) (PV 3 (1 + r1) (1 + r2) lf2 er2 ea2 P2) (.slice (some ⟨g, 0, none⟩) xs.length c6z) xs) (wanted_none rfl) (by kernel_rfl) (by kernel_rfl) (by decide) (by decide) (fun wq hT K hK => ?_)
            obtain ⟨gB, g8, g9, gO, gz⟩ := hT
            have HK := Lib.hid (hK wq ⟨gB, g8, g9, gO, gz⟩)
            clear hK g8 g9 gB gO hcall hcall2
            go_simp
            exact kput (d := 74) f74 HK.out
          · refine step_pre (S := S7 w b8 b9 base (PV 3 (1 + r1) (1 + r2) lf er ea P) (PV 3 (1 + r1) (1 + r2) lf2 er2 ea2 P2) (.slice (some ⟨g, 0, none⟩) xs.length c6z) xs) (wanted_none rfl) (by kernel_rfl) (by kernel_rfl) (by decide) (by decide) (fun wq hT K hK => ?_)
            obtain ⟨gB, g8, g9, gO, gz⟩ := hT
            have HK := Lib.hid (hK wq ⟨gB, g8, g9, gO, gz⟩)
            obtain ⟨g', hgg, _, _, _, k0, k1, k2, k3⟩ := part_cell gO i p HP.out
            obtain rfl : g = g' := by simpa using hgg
            clear hK g8 g9 gB gO hgg hcall hcall2
            go_simp
            exact kput (d := 75) f75 HK.out
          · refine step_pre (S := S7 w b8 b9 base (PV 3 (1 + r1) (1 + r2) lf er ea P) (PV 3 (1 + r1) (1 + r2) lf2 er2 ea2 P2) (.slice (some ⟨g, 0, none⟩) xs.length c6z) xs) (wanted_none rfl) (by kernel_rfl) (by kernel_rfl) (by decide) (by decide) (fun wq hT K hK => ?_)
            obtain ⟨gB, g8, g9, gO, gz⟩ := hT
            have HK := Lib.hid (hK wq ⟨gB, g8, g9, gO, gz⟩)
            have HKK := Lib.hid hK
            have G8 := Lib.hid g8
            have G9 := Lib.hid g9
            have GO := Lib.hid gO
            have HCC := Lib.hid hcall2
            clear hK g8 g9 gO HK hcall hcall2
            go_simp
            refine (HCC.out _).mono ?_
            rintro e w' ⟨rfl, hb⟩
            exact kput (d := 76) f76 (HKK.out w' ⟨gB.trans (hb.mono gB.size), G8.out.below hb G8.out.hi, G9.out.below hb G9.out.hi, own_below GO.out hb (Nat.le_refl _), Nat.le_trans gz hb.size⟩)
          · intro l wq hcl hT hun haf
            have e45 := not_yet (s := 45) (i := 44) hcl (by kernel_rfl) hun
            have e44 : l.getD 44 false = false := by
              cases h : l.getD 44 false with
              | false => rfl
              | true => exact absurd h (by simpa using getD_false hun)
            rw [e44, e45] at hT
            obtain ⟨gB, g8, g9, gO, gz⟩ := hT
            refine ⟨fun _ => ?_, fun h2 => by rw [wanted_none rfl] at h2; cases h2⟩
            have hy : F.eval (.tmp 54) = .agg (PV 3 (1 + r1) (1 + r2) lf2 er2 ea2 P2).toArray := by simp [Act.eval, f54]
            refine wp_store_pv g8 rfl rfl (by simp [Act.eval, f8]) hy ?_
            refine ⟨rfl, ?_⟩
            show S7 w b8 b9 base _ _ _ _ ((l.setIfInBounds 44 true).getD 44 false) ((l.setIfInBounds 44 true).getD 45 false) _
            have hun : l.getD 44 true = false := hun
            rw [getD_set_at (getD_size hun), getD_set_ne false (show (44 : Nat) ≠ 45 by decide), e45]
            exact ⟨below_cells (by omega) _ _ gB, g8.store _ rfl, g9.apart (fun e => hne e.symm) _ _, own_far gO (fun k hk => by have := hol k hk; omega), by rw [size_cells]; exact gz⟩
          · intro l wq hcl hT hun haf
            have e44 : l.getD 44 false = true := by simp [Region.binds] at haf; simp [haf]
            have e45 : l.getD 45 false = false := by
              cases h : l.getD 45 false with
              | false => rfl
              | true => exact absurd h (by simpa using getD_false hun)
            rw [e44, e45] at hT
            obtain ⟨gB, g8, g9, gO, gz⟩ := hT
            refine ⟨fun _ => ?_, fun h2 => by rw [wanted_none rfl] at h2; cases h2⟩
            have hy : F.eval (.tmp 76) = .agg (PV 3 (1 + r1) (1 + r2) lf2 er2 ea2 P2).toArray := by simp [Act.eval, f76]
            refine wp_store_pv g9 rfl rfl (by simp [Act.eval, f9]) hy ?_
            refine ⟨rfl, ?_⟩
            show S7 w b8 b9 base _ _ _ _ ((l.setIfInBounds 45 true).getD 44 false) ((l.setIfInBounds 45 true).getD 45 false) _
            have hun : l.getD 45 true = false := hun
            rw [getD_set_at (getD_size hun), getD_set_ne false (show (45 : Nat) ≠ 44 by decide), e44]
            exact ⟨below_cells (by omega) _ _ gB, g8.apart hne _ _, g9.store _ rfl, own_far gO (fun k hk => by have := hol k hk; omega), by rw [size_cells]; exact gz⟩
        · rintro l wq hT hall
          have e44 := hall 44 (by decide)
          have e45 := hall 45 (by decide)
          rw [e44, e45] at hT
          obtain ⟨gB, g8, g9, gO, gz⟩ := hT
          simp only [cond_true] at g8 g9
          simp only [putAll, Act.put, List.setIfInBounds_toArray, List.set_cons_zero, List.set_cons_succ]
          clear hA8 hA9 hB hown hcall hcall2 hall e44 e45
          have HN := Lib.hid (show SInv w b8 b9 (1 + r1) (1 + r2) xs (.slice (some ⟨g, 0, none⟩) xs.length c6z) base wq from ⟨gB, ⟨lf2, er2, ea2, P2, g8, g9, hP2⟩, gO, gz⟩)
          go_wp2_with (with_reducible refine hold_load 26 rfl ?_)
          refine load_pv g8 rfl rfl rfl ?_
          go_wp2_with (with_reducible refine hold_load 26 rfl ?_)
          refine load_pv g9 rfl rfl rfl ?_
          simp only [PV]
          clear g8 g9 gO gB
          go_wp2_with fail
          go_roundw
          case rel => exact ⟨i + 1, by go_num, by omega, HN.out⟩
          case measure => simp [intOf]; omega
      · obtain ⟨D, hD⟩ : ∃ D, ansS (1 + r1) er P = D := ⟨_, rfl⟩
        have HD := Lib.hid hD
        clear hD hinv HI0
        go_upto_region 10 with (fail)
        refine region_calm2 (fun F => F.tmps[8]? = some (.pointer (some ⟨b8, 0, none⟩)) ∧ F.tmps[9]? = some (.pointer (some ⟨b9, 0, none⟩)) ∧ F.tmps[80]? = some (.agg (PV 3 (1 + r1) (1 + r2) lf er ea P).toArray) ∧ F.tmps[81]? = some (.agg #[.int .i64 3, .int .i64 er, .string D, .int .i64 5]) ∧ F.tmps[82]? = some (.agg (PV 3 (1 + r1) (1 + r2) lf er ea P).toArray) ∧ F.tmps[83]? = some (.agg #[.int .i64 3, .int .i64 er, .string D, .int .i64 5]) ∧ F.tmps[84]? = some (.bool true) ∧ F.tmps[85]? = some (.bool true) ∧ F.tmps[86]? = some (.bool true) ∧ F.tmps[87]? = some (.bool true) ∧ F.tmps[6]? = some (.bool true)) (fun wq => At wq b8 (PV 3 (1 + r1) (1 + r2) lf er ea P) ∧ At wq b9 (PV 3 (1 + r1) (1 + r2) lf er ea P) ∧ Below w.heap.size w wq) [.agg (PV 3 (1 + r1) (1 + r2) lf er ea P).toArray, .agg #[.int .i64 3, .int .i64 er, .string D, .int .i64 5], .agg (PV 3 (1 + r1) (1 + r2) lf er ea P).toArray, .agg #[.int .i64 3, .int .i64 er, .string D, .int .i64 5], .bool true, .bool true, .bool true, .bool true, .bool true] (by kernel_rfl) (by kernel_rfl) ?_ ⟨hA8.drew, hA9.drew, hB.drew⟩ ?_ ?_
        · simp only [putAll, Act.put, List.setIfInBounds_toArray, List.set_cons_zero, List.set_cons_succ]
          exact ⟨rfl, rfl, rfl, rfl, rfl, rfl, rfl, rfl, rfl, rfl, rfl⟩
        · rintro F ⟨f8, f9, f80, f81, f82, f83, f84, f85, f86, f87, f6⟩
          clear hA8 hA9 hB
          refine steps_cons ?_ (steps_cons ?_ (steps_cons ?_ (steps_cons ?_ (steps_cons ?_ (steps_cons ?_ (steps_cons ?_ (steps_cons ?_ (steps_cons ?_ (steps_nil)))))))))
          · refine step_of (wanted_none rfl) (fun wq hT K hK => ?_)
            obtain ⟨g8, g9, gB⟩ := hT
            have HK := Lib.hid (hK wq ⟨g8, g9, gB⟩)
            exact wp_load_mid 26 (.tmp 8) rfl b8 0 (by simp [Act.eval, f8]) _ _ g8.r Try.underlying26 rfl size26 (kput (d := 80) f80 HK.out)
          · refine step_of (wanted_none rfl) (fun wq hT K hK => ?_)
            obtain ⟨g8, g9, gB⟩ := hT
            have HK := Lib.hid (hK wq ⟨g8, g9, gB⟩)
            have HKK := Lib.hid hK
            have G8 := Lib.hid g8
            have G9 := Lib.hid g9
            clear hK g8 g9 HK
            go_simp
            refine (answer_pv _ _ _ _ _ _ _ _ _).mono ?_
            rw [HD.out]
            rintro e w' ⟨rfl, hb⟩
            exact kput (d := 81) f81 (HKK.out w' ⟨G8.out.below hb G8.out.hi, G9.out.below hb G9.out.hi, gB.trans (hb.mono gB.size)⟩)
          · refine step_of (wanted_none rfl) (fun wq hT K hK => ?_)
            obtain ⟨g8, g9, gB⟩ := hT
            have HK := Lib.hid (hK wq ⟨g8, g9, gB⟩)
            exact wp_load_mid 26 (.tmp 9) rfl b9 0 (by simp [Act.eval, f9]) _ _ g9.r Try.underlying26 rfl size26 (kput (d := 82) f82 HK.out)
          · refine step_of (wanted_none rfl) (fun wq hT K hK => ?_)
            obtain ⟨g8, g9, gB⟩ := hT
            have HK := Lib.hid (hK wq ⟨g8, g9, gB⟩)
            have HKK := Lib.hid hK
            have G8 := Lib.hid g8
            have G9 := Lib.hid g9
            clear hK g8 g9 HK
            go_simp
            refine (ranswer_pv _ _ _ _ _ _ _ _ _).mono ?_
            rw [HD.out]
            rintro e w' ⟨rfl, hb⟩
            exact kput (d := 83) f83 (HKK.out w' ⟨G8.out.below hb G8.out.hi, G9.out.below hb G9.out.hi, gB.trans (hb.mono gB.size)⟩)
          · refine step_of (wanted_none rfl) (fun wq hT K hK => ?_)
            obtain ⟨g8, g9, gB⟩ := hT
            have HK := Lib.hid (hK wq ⟨g8, g9, gB⟩)
            clear hK g8 g9 gB
            go_simp
            exact kput (d := 84) f84 HK.out
          · refine step_of (wanted_none rfl) (fun wq hT K hK => ?_)
            obtain ⟨g8, g9, gB⟩ := hT
            have HK := Lib.hid (hK wq ⟨g8, g9, gB⟩)
            clear hK g8 g9 gB
            go_simp
            exact kput (d := 85) f85 HK.out
          · refine step_of (wanted_some rfl (d := 85) rfl f85) (fun wq hT K hK => ?_)
            obtain ⟨g8, g9, gB⟩ := hT
            have HK := Lib.hid (hK wq ⟨g8, g9, gB⟩)
            have HKK := Lib.hid hK
            have G8 := Lib.hid g8
            have G9 := Lib.hid g9
            clear hK g8 g9 HK
            go_simp
            refine (awake_any _).mono ?_
            rintro e w' ⟨rfl, hb⟩
            exact kput (d := 86) f86 (HKK.out w' ⟨G8.out.below hb G8.out.hi, G9.out.below hb G9.out.hi, gB.trans (hb.mono gB.size)⟩)
          · refine step_of (wanted_none rfl) (fun wq hT K hK => ?_)
            obtain ⟨g8, g9, gB⟩ := hT
            have HK := Lib.hid (hK wq ⟨g8, g9, gB⟩)
            clear hK g8 g9 gB
            go_simp
            exact kput (d := 87) f87 HK.out
          · refine step_of (wanted_none rfl) (fun wq hT K hK => ?_)
            obtain ⟨g8, g9, gB⟩ := hT
            have HK := Lib.hid (hK wq ⟨g8, g9, gB⟩)
            clear hK g8 g9 gB
            go_simp
            exact kput (d := 6) f6 HK.out
        · rintro wq ⟨g8, g9, gB⟩
          simp only [putAll, Act.put, List.setIfInBounds_toArray, List.set_cons_zero, List.set_cons_succ]
          go_wp2_with fail
          go_ret
          exact RetW.mk rfl gB
end Go.Proofs.Ytppkbifhhpakgaa
