/- The walk of PagetableLast. -/
import Derived.Test.YtodonnagmgbliaaMk
import Derived.Maps.OwnSet
import Derived.Deep.CutBlock
namespace Go.Proofs.Ytodonnagmgbliaa
open Go.ChangeShapes Go.WideShapes Go.ChangeAt Go.RowKit

/-- the world in the midst of PagetableLast: the list, the tape, the map -/
structure LSt (w0 : World) (T : Nat) (a : Option Addr) (len cap : Nat) (b : Option Addr) (c : Nat) (l : List Ar) (mb : Nat) (E : List Ar) (W : World) : Prop where
  bel : Below w0.heap.size w0 W
  row : ARow 0 b c l W
  tp : TP w0 T a len cap W
  map : MapIs W mb E
  lo : w0.heap.size ≤ T
  mlo : w0.heap.size ≤ mb
  ne : mb ≠ T
  ob : ∀ g, b = some ⟨g, 0, none⟩ → g ≠ T ∧ g ≠ mb
variable {w0 : World} {T : Nat} {a : Option Addr} {len cap : Nat} {b : Option Addr} {c : Nat} {l : List Ar} {mb : Nat} {E : List Ar} {W W' : World}
theorem ARow.keep {B cap : Nat} {a : Option Addr} {l : List Ar} {w w' : World} (h : ARow B a cap l w) (hs : w.heap.size ≤ w'.heap.size) (hk : ∀ g, a = some ⟨g, 0, none⟩ → g < w.heap.size → w'.heap[g]? = w.heap[g]?) : ARow B a cap l w' := by
  rcases h with h | ⟨g, h1, h2, h3, h4, h5, h6⟩
  · exact Or.inl h
  · have hc : ∀ o, w'.cell? ⟨g, o, none⟩ = w.cell? ⟨g, o, none⟩ := fun o => World.cell?_of_block (w := w) (a := ⟨g, o, none⟩) (hk g h1 h3)
    exact Or.inr ⟨g, h1, h2, by omega, h4, h5, fun j hj => ⟨by rw [hc]; exact (h6 j hj).c0, by rw [hc]; exact (h6 j hj).c1, by rw [hc]; exact (h6 j hj).c2, by rw [hc]; exact (h6 j hj).c3, by rw [hc]; exact (h6 j hj).c4⟩⟩
theorem tp_other {r : Nat} (h : TP w0 T a len cap W) (hk : Tick r W W') (hr : r ≠ T) (hlo : w0.heap.size ≤ r) : TP w0 T a len cap W' := by
  obtain ⟨k, h⟩ := h
  exact ⟨k, h.row, h.lo, by rw [hk.size]; exact h.hi, h.bel.trans (hk.below hlo), by rw [hk.cell (Ne.symm hr)]; exact h.c0, by rw [hk.cell (Ne.symm hr)]; exact h.c1, by rw [hk.frozen (Ne.symm hr)]; exact h.fz, h.kl, h.lm⟩
theorem LSt.hi (h : LSt w0 T a len cap b c l mb E W) : T < W.heap.size := h.tp.hi
theorem LSt.below (h : LSt w0 T a len cap b c l mb E W) (hb : Below W.heap.size W W') : LSt w0 T a len cap b c l mb E W' :=
  ⟨h.bel.trans (hb.mono h.bel.size), h.row.below hb, h.tp.below hb h.tp.hi, h.map.below hb, h.lo, h.mlo, h.ne, h.ob⟩
theorem LSt.other {r : Nat} (h : LSt w0 T a len cap b c l mb E W) (hk : Tick r W W') (hT : r ≠ T) (hm : r ≠ mb) (hg : ∀ g, b = some ⟨g, 0, none⟩ → g ≠ r) (hlo : w0.heap.size ≤ r) : LSt w0 T a len cap b c l mb E W' :=
  ⟨h.bel.trans (hk.below hlo), h.row.keep (Nat.le_of_eq hk.size.symm) (fun g e _ => hk.block g (hg g e)), tp_other h.tp hk hT hlo, h.map.same (hk.block mb (Ne.symm hm)), h.lo, h.mlo, h.ne, h.ob⟩
theorem LSt.tickm {E' : List Ar} (h : LSt w0 T a len cap b c l mb E W) (hk : Tick mb W W') (hm : MapIs W' mb E') : LSt w0 T a len cap b c l mb E' W' :=
  ⟨h.bel.trans (hk.below h.mlo), h.row.keep (Nat.le_of_eq hk.size.symm) (fun g e _ => hk.block g (h.ob g e).2), tp_other h.tp hk h.ne h.mlo, hm, h.lo, h.mlo, h.ne, h.ob⟩
theorem LSt.row2 {b' : Option Addr} {c' : Nat} {l' : List Ar} (h : LSt w0 T a len cap b c l mb E W) (hr : ARow 0 b' c' l' W) (hg : ∀ g, b' = some ⟨g, 0, none⟩ → g ≠ T ∧ g ≠ mb) : LSt w0 T a len cap b' c' l' mb E W :=
  ⟨h.bel, hr, h.tp, h.map, h.lo, h.mlo, h.ne, hg⟩
theorem LSt.next (h : LSt w0 T a len cap b c l mb E W) (n : Int) (h1 : 1 ≤ n) (h2 : n ≤ 1000000) :
    Calls Try.prog 8 #[.pointer (some ⟨T, 0, none⟩), .int .i64 n] W fun e' w' => ∃ r : Int, 0 ≤ r ∧ r < n ∧ e' = .returned (.int .i64 r) ∧ LSt w0 T a len cap b c l mb E w' :=
  (next_tp n _ _ _ _ _ _ h1 h2 h.tp).mono fun _ _ ⟨r, h0, h1, he, hk, tp⟩ => ⟨r, h0, h1, he, h.bel.trans (hk.below h.lo), h.row.keep (Nat.le_of_eq hk.size.symm) (fun g e _ => hk.block g (h.ob g e).1), tp, h.map.same (hk.block mb h.ne), h.lo, h.mlo, h.ne, h.ob⟩
theorem IterAt.strong {r : Nat} {F G : Ar → Prop} {cnt : Nat} (h : IterAt W mb r E F cnt) (hFG : ∀ a ∈ E, F a → G a) : IterAt W mb r E G cnt := by
  obtain ⟨es, c, s, sn, c0, h1, h2, h3, h4, h5, h6, h7, h8⟩ := h
  refine ⟨es, c, s, sn, c0, h1, h2, h3, h4, h5, h6, h7, fun j x hx hs => ?_⟩
  have hj := (h2.at hx).1
  exact hFG _ (by rw [getD_get hj]; exact List.getElem_mem hj) (h8 j x hx hs)
theorem perm_take {E : List Ar} {e : Ar} (h : Apart E) (he : e ∈ E) : E.Perm (e :: E.filter (notKey e.pr e.pa)) := by
  obtain ⟨j, hj, rfl⟩ := List.mem_iff_getElem.1 he
  have h1 := set_perm (e := E[j]) h hj (by rw [getD_get hj]; exact decide_eq_true ⟨rfl, rfl⟩)
  rwa [List.set_getElem_self] at h1
theorem two_blk (w : World) (s c f : Int) (p q : Bool) : Blk ((w.alloc (.cells #[.int .i64 s, .int .i64 c] 48)).alloc (.cells #[.int .i64 s, .int .i64 c, .int .i64 f, .bool p, .bool q] 30)) (w.heap.size + 1) ⟨s, c, f, p, q⟩ := by
  have h := Blk.new (w.alloc (.cells #[.int .i64 s, .int .i64 c] 48)) s c f p q
  rw [show (w.alloc (.cells #[.int .i64 s, .int .i64 c] 48)).heap.size = w.heap.size + 1 from by simp] at h
  exact h
theorem two_boxes (w : World) (s c f : Int) (p q : Bool) :
    ((w.alloc (.cells #[.int .i64 s, .int .i64 c] 48)).alloc (.cells #[.int .i64 s, .int .i64 c, .int .i64 f, .bool p, .bool q] 30)).cell? ⟨w.heap.size, 0, none⟩ = some (.int .i64 s) ∧
    ((w.alloc (.cells #[.int .i64 s, .int .i64 c] 48)).alloc (.cells #[.int .i64 s, .int .i64 c, .int .i64 f, .bool p, .bool q] 30)).cell? ⟨w.heap.size, 1, none⟩ = some (.int .i64 c) ∧
    ((w.alloc (.cells #[.int .i64 s, .int .i64 c] 48)).alloc (.cells #[.int .i64 s, .int .i64 c, .int .i64 f, .bool p, .bool q] 30)).cell? ⟨w.heap.size + 1, 0, none⟩ = some (.int .i64 s) ∧
    ((w.alloc (.cells #[.int .i64 s, .int .i64 c] 48)).alloc (.cells #[.int .i64 s, .int .i64 c, .int .i64 f, .bool p, .bool q] 30)).cell? ⟨w.heap.size + 1, 1, none⟩ = some (.int .i64 c) ∧
    ((w.alloc (.cells #[.int .i64 s, .int .i64 c] 48)).alloc (.cells #[.int .i64 s, .int .i64 c, .int .i64 f, .bool p, .bool q] 30)).cell? ⟨w.heap.size + 1, 2, none⟩ = some (.int .i64 f) ∧
    ((w.alloc (.cells #[.int .i64 s, .int .i64 c] 48)).alloc (.cells #[.int .i64 s, .int .i64 c, .int .i64 f, .bool p, .bool q] 30)).cell? ⟨w.heap.size + 1, 3, none⟩ = some (.bool p) ∧
    ((w.alloc (.cells #[.int .i64 s, .int .i64 c] 48)).alloc (.cells #[.int .i64 s, .int .i64 c, .int .i64 f, .bool p, .bool q] 30)).cell? ⟨w.heap.size + 1, 4, none⟩ = some (.bool q) := by
  have h := two_blk w s c f p q
  have hc : ∀ o, ((w.alloc (.cells #[.int .i64 s, .int .i64 c] 48)).alloc (.cells #[.int .i64 s, .int .i64 c, .int .i64 f, .bool p, .bool q] 30)).cell? ⟨w.heap.size, o, none⟩ = #[Value.int .i64 s, .int .i64 c][o]? := fun o =>
    (World.cell?_alloc_lt _ _ _ (by simp)).trans (World.cell?_alloc_mark w #[.int .i64 s, .int .i64 c] 48 (0, 0) o)
  exact ⟨hc 0, hc 1, h.c0, h.c1, h.c2, h.c3, h.c4⟩
theorem IterAt.tickm {r : Nat} {F : Ar → Prop} {cnt : Nat} (h : IterAt W mb r E F cnt) (hk : Tick T W W') (h1 : mb ≠ T) (h2 : r ≠ T) : IterAt W' mb r E F cnt := h.same (hk.block mb h1) (hk.block r h2)

set_option maxRecDepth 100000 in
set_option maxHeartbeats 16000000 in
theorem last_walk (a0 : Option Addr) (len0 cap0 : Nat) (w : World) (ha : ArgRow w a0 len0) (hl : len0 ≤ maxLen) :
    Calls Try.prog 5 #[.slice a0 len0 cap0] w (RetW (.bool true) w) := by
  have HT : Hid (TP w w.heap.size a0 len0 cap0 (w.alloc (.cells #[.slice a0 len0 cap0, .int .i64 0] 25))) := tape_start w a0 len0 cap0 ha hl
  have hmm := @run_makeMap Try.prog
  have hs1 : (w.alloc (.cells #[.slice a0 len0 cap0, .int .i64 0] 25)).heap.size = w.heap.size + 1 := by simp
  go_enter Try.func5, Try.ntmps5
  go_wp2_with fail
  have HS : Hid (LSt w w.heap.size a0 len0 cap0 none 0 [] (w.heap.size + 1) [] ((w.alloc (.cells #[.slice a0 len0 cap0, .int .i64 0] 25)).alloc (.map #[] 0))) :=
    ⟨((Below.refl _ w).alloc (Nat.le_refl _) _).alloc (by simp) _, Or.inl ⟨rfl, rfl, rfl⟩, HT.out.below ((Below.refl _ _).alloc (Nat.le_refl _) _) HT.out.hi, by rw [← hs1]; exact MapIs.new _, Nat.le_refl _, Nat.le_succ _, by omega, fun g hg => by cases hg⟩
  generalize (w.alloc (.cells #[.slice a0 len0 cap0, .int .i64 0] 25)).alloc (.map #[] 0) = w1 at *
  clear HT hs1 hmm
  go_loopw [4, 6] (fun v4 v6 wr => ∃ (n : Nat) (b : Option Addr) (c : Nat) (l E : List Ar), n ≤ 30 ∧ v6 = .int .i64 n ∧ v4 = .slice b l.length c ∧ l.length ≤ n ∧ Hid (LSt w w.heap.size a0 len0 cap0 b c l (w.heap.size + 1) E wr) ∧ Hid (checkV l = true) ∧ Hid (E.Perm l)) (fun _ v6 _ => 40 - (intOf v6).toNat)
  case atStart => exact ⟨0, none, 0, [], [], by omega, rfl, rfl, Nat.le_refl _, HS, (by decide : checkV [] = true), List.Perm.refl _⟩
  case round =>
    clear HS
    obtain ⟨n, b, c, l, E, hn, rfl, rfl, hln, HS, HC, HP⟩ := hrel
    by_cases hlt : n < 30
    · have hlt' : (n : Int) < 30 := by omega
      obtain ⟨tk, htk⟩ := HS.out.tp
      have HEN := Lib.hid (end_any _ _ _ _ _ _ _ htk)
      clear htk
      go_wp2_with fail
      refine HEN.out.mono ?_
      rintro e w2 ⟨q, rfl, rfl⟩
      replace HS := Lib.hid (HS.out.below (below_drewN (Below.refl _ _) q))
      clear HEN
      generalize wr.drewN q = w2 at *
      by_cases hend : len0 ≤ tk
      · have hend' : decide (len0 ≤ tk) = true := decide_eq_true hend
        rw [hend']
        go_wp2_with fail
        refine (awake_any _).mono ?_; rintro e w3 ⟨rfl, hb⟩
        have HB := Lib.hid (HS.out.bel.trans (hb.mono HS.out.bel.size))
        clear hb
        go_wp2_with fail
        go_ret
        exact RetW.mk rfl HB.out
      · have hend' : decide (len0 ≤ tk) = false := decide_eq_false hend
        rw [hend']
        clear hend hend'
        have HKE : Hid (∀ e ∈ E, KeyOK e) := fun e he => keyOK_right ((check_pw.1 HC.out).1 e (HP.out.mem_iff.1 he))
        have HAE : Hid (Apart E) := (apart_of_check HC.out).perm HP.out.symm
        go_wp2_with fail
        refine (HS.out.next 3 (by omega) (by omega)).mono ?_
        rintro e x1 ⟨p, p0, p1, rfl, hm⟩
        replace HS := Lib.hid hm
        clear hm
        go_wp2_with fail
        refine (HS.out.next 5 (by omega) (by omega)).mono ?_
        rintro e x2 ⟨v, v0, v1, rfl, hm⟩
        replace HS := Lib.hid hm
        clear hm
        go_wp2_with fail
        refine (HS.out.next 4 (by omega) (by omega)).mono ?_
        rintro e x3 ⟨f, f0, f1, rfl, hm⟩
        replace HS := Lib.hid hm
        clear hm
        go_wp2_with fail
        refine (HS.out.next 4 (by omega) (by omega)).mono ?_
        rintro e x4 ⟨sw, sw0, sw1, rfl, hm⟩
        replace HS := Lib.hid hm
        clear hm
        have hrf : ∃ rf, rf = 1 + f := ⟨_, rfl⟩
        obtain ⟨rf, hrf⟩ := hrf
        have hrf0 : 1 ≤ rf := by omega
        have hrf1 : rf ≤ 4 := by omega
        rw [← hrf]
        clear hrf
        go_upto_block 2 with fail
        go_cut [4] (fun s4 wx => ∃ (b : Option Addr) (c : Nat) (l E : List Ar), s4 = .slice b l.length c ∧ l.length ≤ n + 1 ∧ Hid (LSt w w.heap.size a0 len0 cap0 b c l (w.heap.size + 1) E wx) ∧ Hid (checkV l = true) ∧ Hid (E.Perm l))
        case first =>
          have h4 : sw = 0 ∨ sw = 1 ∨ sw = 2 ∨ sw = 3 := by omega
          rcases h4 with h4 | h4 | h4 | h4
          · subst h4
            go_wp2_with fail
            refine (HS.out.next 2 (by omega) (by omega)).mono ?_
            rintro e y1 ⟨r5, r50, r51, rfl, hm⟩
            replace HS := Lib.hid hm
            clear hm
            go_upto_region 12 with (fail)
            generalize (r5 == 0) = wb at *
            have hb := (Below.refl y1.heap.size y1).alloc (Nat.le_refl _) (Obj.cells #[Value.int IntKind.i64 p, Value.int IntKind.i64 v, Value.int IntKind.i64 rf, Value.bool wb, Value.bool false] 30)
            replace HS := Lib.hid (HS.out.below hb)
            have HBX := Lib.hid (Blk.new y1 p v rf wb false)
            clear hb
            generalize y1.alloc (Obj.cells #[Value.int IntKind.i64 p, Value.int IntKind.i64 v, Value.int IntKind.i64 rf, Value.bool wb, Value.bool false] 30) = y2 at *
            generalize y1.heap.size = A at *
            have k0 := HBX.out.c0; have k1 := HBX.out.c1; have k2 := HBX.out.c2; have k3 := HBX.out.c3; have k4 := HBX.out.c4
            simp only at k0 k1 k2 k3 k4
            have hrt : rightB ⟨p, v, rf, wb, false⟩ = true := decide_eq_true ⟨p0, by show p < 8; omega, v0, by show v < 64; omega, by show 1 ≤ rf; omega, by show rf ≤ 64; omega⟩
            have HEN := Lib.hid (enter_any 0 b l c ⟨p, v, rf, wb, false⟩ y2 HS.out.row (by omega))
            have hee : enterE l ⟨p, v, rf, wb, false⟩ = 0 := by unfold enterE; rw [if_pos HC.out, if_pos hrt]
            rw [hee] at HEN
            have HPM : Hid (∀ E' : List Ar, E'.Perm (⟨p, v, rf, wb, false⟩ :: E.filter (notKey p v)) → E'.Perm (enterL l ⟨p, v, rf, wb, false⟩)) := fun (E' : List Ar) (h : E'.Perm ((⟨p, v, rf, wb, false⟩ : Ar) :: E.filter (notKey p v))) => (h.trans ((HP.out.filter _).cons _)).trans (enter_perm HC.out hrt).symm
            have HC2 : Hid (checkV (enterL l ⟨p, v, rf, wb, false⟩) = true) := check_enter HC.out
            have hle : (enterL l ⟨p, v, rf, wb, false⟩).length ≤ l.length + 1 := enterL_len
            have hok : KeyOK ⟨p, v, rf, wb, false⟩ := keyOK_right hrt
            generalize enterL l ⟨p, v, rf, wb, false⟩ = l2 at *
            unfold arVal at HEN
            simp only at HEN
            clear hee hrt
            go_wp2_with fail
            refine HEN.out.mono ?_
            rintro e y3 ⟨b2, c2, rfl, hr2, hb⟩
            have hhi := HS.out.hi
            have hmi := HS.out.map.lt
            replace HS : Hid (LSt w w.heap.size a0 len0 cap0 b2 c2 l2 (w.heap.size + 1) E y3) := (HS.out.below hb).row2 (hr2.mono (Nat.zero_le _)) (fun g hg => by have := (hr2.blk hg).1; omega)
            replace HBX := Lib.hid (HBX.out.below hb)
            clear hb hr2 HEN k0 k1 k2 k3 k4 hhi hmi
            have k0 := HBX.out.c0; have k1 := HBX.out.c1; have k2 := HBX.out.c2; have k3 := HBX.out.c3; have k4 := HBX.out.c4
            simp only at k0 k1 k2 k3 k4
            go_wp2_with (at_mapUpdate; refine wpList_update _ rfl _ _ _ rfl (w.heap.size + 1) E rfl HS.out.map HKE.out HAE.out ⟨p, v, rf, wb, false⟩ hok rfl rfl ?_)
            intro y4 E4 hmap htick hperm
            have HS4 := Lib.hid (HS.out.tickm htick hmap)
            have HP4 := Lib.hid (HPM.out E4 hperm)
            clear hmap htick hperm
            go_wp2_with fail
            go_meet
            exact ⟨b2, c2, l2, E4, rfl, by omega, HS4, HC2, HP4⟩
          · subst h4
            go_wp2_with fail
            refine (HS.out.next 2 (by omega) (by omega)).mono ?_
            rintro e y1 ⟨r5, r50, r51, rfl, hm⟩
            replace HS := Lib.hid hm
            clear hm
            go_upto_region 12 with (fail)
            generalize (r5 == 0) = wb at *
            have hb := (Below.refl y1.heap.size y1).alloc (Nat.le_refl _) (Obj.cells #[Value.int IntKind.i64 p, Value.int IntKind.i64 v, Value.int IntKind.i64 rf, Value.bool wb, Value.bool false] 30)
            replace HS := Lib.hid (HS.out.below hb)
            have HBX := Lib.hid (Blk.new y1 p v rf wb false)
            clear hb
            generalize y1.alloc (Obj.cells #[Value.int IntKind.i64 p, Value.int IntKind.i64 v, Value.int IntKind.i64 rf, Value.bool wb, Value.bool false] 30) = y2 at *
            generalize y1.heap.size = A at *
            have k0 := HBX.out.c0; have k1 := HBX.out.c1; have k2 := HBX.out.c2; have k3 := HBX.out.c3; have k4 := HBX.out.c4
            simp only at k0 k1 k2 k3 k4
            have hrt : rightB ⟨p, v, rf, wb, false⟩ = true := decide_eq_true ⟨p0, by show p < 8; omega, v0, by show v < 64; omega, by show 1 ≤ rf; omega, by show rf ≤ 64; omega⟩
            have HEN := Lib.hid (enter_any 0 b l c ⟨p, v, rf, wb, false⟩ y2 HS.out.row (by omega))
            have hee : enterE l ⟨p, v, rf, wb, false⟩ = 0 := by unfold enterE; rw [if_pos HC.out, if_pos hrt]
            rw [hee] at HEN
            have HPM : Hid (∀ E' : List Ar, E'.Perm (⟨p, v, rf, wb, false⟩ :: E.filter (notKey p v)) → E'.Perm (enterL l ⟨p, v, rf, wb, false⟩)) := fun (E' : List Ar) (h : E'.Perm ((⟨p, v, rf, wb, false⟩ : Ar) :: E.filter (notKey p v))) => (h.trans ((HP.out.filter _).cons _)).trans (enter_perm HC.out hrt).symm
            have HC2 : Hid (checkV (enterL l ⟨p, v, rf, wb, false⟩) = true) := check_enter HC.out
            have hle : (enterL l ⟨p, v, rf, wb, false⟩).length ≤ l.length + 1 := enterL_len
            have hok : KeyOK ⟨p, v, rf, wb, false⟩ := keyOK_right hrt
            generalize enterL l ⟨p, v, rf, wb, false⟩ = l2 at *
            unfold arVal at HEN
            simp only at HEN
            clear hee hrt
            go_wp2_with fail
            refine HEN.out.mono ?_
            rintro e y3 ⟨b2, c2, rfl, hr2, hb⟩
            have hhi := HS.out.hi
            have hmi := HS.out.map.lt
            replace HS : Hid (LSt w w.heap.size a0 len0 cap0 b2 c2 l2 (w.heap.size + 1) E y3) := (HS.out.below hb).row2 (hr2.mono (Nat.zero_le _)) (fun g hg => by have := (hr2.blk hg).1; omega)
            replace HBX := Lib.hid (HBX.out.below hb)
            clear hb hr2 HEN k0 k1 k2 k3 k4 hhi hmi
            have k0 := HBX.out.c0; have k1 := HBX.out.c1; have k2 := HBX.out.c2; have k3 := HBX.out.c3; have k4 := HBX.out.c4
            simp only at k0 k1 k2 k3 k4
            go_wp2_with (at_mapUpdate; refine wpList_update _ rfl _ _ _ rfl (w.heap.size + 1) E rfl HS.out.map HKE.out HAE.out ⟨p, v, rf, wb, false⟩ hok rfl rfl ?_)
            intro y4 E4 hmap htick hperm
            have HS4 := Lib.hid (HS.out.tickm htick hmap)
            have HP4 := Lib.hid (HPM.out E4 hperm)
            clear hmap htick hperm
            go_wp2_with fail
            go_meet
            exact ⟨b2, c2, l2, E4, rfl, by omega, HS4, HC2, HP4⟩
          · subst h4
            go_wp2_with fail
            refine (HS.out.next 3 (by omega) (by omega)).mono ?_
            rintro e y1 ⟨cz, cz0, cz1, rfl, hm⟩
            replace HS := Lib.hid hm
            clear hm
            obtain ⟨cn, rfl⟩ := Int.eq_ofNat_of_zero_le cz0
            go_wp2_with fail
            have HZP := Lib.hid (zap_any p v (cn : Int) 0 b l c y1 HS.out.row (by omega))
            have hz := span_zap HC.out p v cn (by omega) v0 (by omega)
            rw [hz] at HZP
            have HC2 : Hid (checkV (l.filter (fun x => !spanB p v cn x)) = true) := check_filter _ HC.out
            have HP2 : Hid ((E.filter (fun x => !spanB p v cn x)).Perm (l.filter (fun x => !spanB p v cn x))) := HP.out.filter _
            have hle : (l.filter (fun x => !spanB p v cn x)).length ≤ l.length := List.length_filter_le _ _
            generalize l.filter (fun x => !spanB p v cn x) = l2 at *
            clear hz
            refine HZP.out.mono ?_
            rintro e y2 ⟨b2, c2, rfl, hr2, hb⟩
            have hhi := HS.out.hi
            have hmi := HS.out.map.lt
            replace HS : Hid (LSt w w.heap.size a0 len0 cap0 b2 c2 l2 (w.heap.size + 1) E y2) := (HS.out.below hb).row2 (hr2.mono (Nat.zero_le _)) (fun g hg => by have := (hr2.blk hg).1; omega)
            clear hb hr2 HZP hhi hmi
            have hwv : IntKind.i64.wrap (v + (cn : Int)) = v + cn := IntWalk.i64_in _ (by omega)
            go_wp2_with fail
            go_loopw [14] (fun v14 wr => ∃ k : Nat, k ≤ cn ∧ v14 = .int .i64 (v + k) ∧ Hid (LSt w w.heap.size a0 len0 cap0 b2 c2 l2 (w.heap.size + 1) (E.filter (fun x => !spanB p v k x)) wr)) (fun v14 _ => 100 - (intOf v14).toNat)
            case atStart => exact ⟨0, Nat.zero_le _, by go_num, by rw [span_zero]; exact HS⟩
            case round =>
              clear HS
              obtain ⟨k, hk, rfl, HS⟩ := hrel
              by_cases hlt : k < cn
              · have hlt' : v + (k : Int) < v + (cn : Int) := by omega
                have HKF : Hid (∀ e ∈ E.filter (fun x => !spanB p v k x), KeyOK e) := fun e he => HKE.out e (List.mem_filter.1 he).1
                have HAF : Hid (Apart (E.filter (fun x => !spanB p v k x))) := List.Pairwise.sublist List.filter_sublist HAE.out
                have hok : KeyOK ⟨p, v + k, 0, false, false⟩ := ⟨p0, by show p < 100; omega, by show 0 ≤ v + (k : Int); omega, by show v + (k : Int) < 100; omega⟩
                have hwk : IntKind.i64.wrap (v + (k : Int) + 1) = v + (k : Int) + 1 := IntWalk.i64_in _ (by omega)
                go_wp2_with (at_delete; refine wpList_delete _ rfl _ _ rfl (w.heap.size + 1) _ rfl HS.out.map HKF.out HAF.out ⟨p, v + k, 0, false, false⟩ hok rfl ?_)
                intro y4 hmap htick
                have hmap2 : MapIs y4 (w.heap.size + 1) (E.filter (fun x => !spanB p v (k + 1) x)) := by rw [← span_succ E p v k, List.filter_filter]; exact hmap
                have HS4 := Lib.hid (HS.out.tickm htick hmap2)
                clear hmap hmap2 htick
                go_wp2_with fail
                go_roundw
                case rel => exact ⟨k + 1, by omega, by rw [show v + (k : Int) + 1 = v + ((k + 1 : Nat) : Int) by omega], HS4⟩
                case measure => simp [intOf]; omega
              · obtain rfl : k = cn := by omega
                go_wp2_with fail
                go_meet
                exact ⟨b2, c2, l2, _, rfl, by omega, HS, HC2, HP2⟩
          · subst h4
            go_wp2_with fail
            have HDP := Lib.hid (drop_any rf 0 b l c _ HS.out.row (by omega))
            have hz : cutL l (frB rf) = l.filter (fun x => !frB rf x) := by unfold cutL; rw [if_pos HC.out]
            rw [hz] at HDP
            have HC2 : Hid (checkV (l.filter (fun x => !frB rf x)) = true) := check_filter _ HC.out
            have HP2 : Hid (∀ E1 D, E.Perm (D ++ E1) → (∀ d ∈ D, frB rf d = true) → (∀ e ∈ E1, frB rf e = false) → E1.Perm (l.filter (fun x => !frB rf x))) := fun (E1 D : List Ar) (h1 : E.Perm (D ++ E1)) (h2 : ∀ d ∈ D, frB rf d = true) (h3 : ∀ e ∈ E1, frB rf e = false) => by
              have h4 := (h1.symm.trans HP.out).filter (fun x => !frB rf x)
              rw [List.filter_append, List.filter_eq_nil_iff.2 (fun d hd => by rw [h2 d hd]; simp), List.filter_eq_self.2 (fun e he => by rw [h3 e he]; rfl), List.nil_append] at h4
              exact h4
            have hle : (l.filter (fun x => !frB rf x)).length ≤ l.length := List.length_filter_le _ _
            generalize l.filter (fun x => !frB rf x) = l2 at *
            clear hz
            refine HDP.out.mono ?_
            rintro e y2 ⟨b2, c2, rfl, hr2, hb⟩
            have hhi := HS.out.hi
            have hmi := HS.out.map.lt
            replace HS : Hid (LSt w w.heap.size a0 len0 cap0 b2 c2 l2 (w.heap.size + 1) E y2) := (HS.out.below hb).row2 (hr2.mono (Nat.zero_le _)) (fun g hg => by have := (hr2.blk hg).1; omega)
            clear hb hr2 HDP hhi hmi
            go_wp2_with (at_range; refine wpList_range47 _ rfl _ rfl (w.heap.size + 1) E rfl HS.out.map ?_)
            intro y3 cnt hit hb
            have hr1 : w.heap.size < y2.heap.size := HS.out.hi
            have hr2 : w.heap.size + 1 < y2.heap.size := HS.out.map.lt
            have HRG : Hid (∀ g, b2 = some ⟨g, 0, none⟩ → g ≠ y2.heap.size) := fun g hg => by have := (HS.out.row.blk hg).2; omega
            replace HS := Lib.hid (HS.out.below hb)
            have HI : Hid (IterAt y3 (w.heap.size + 1) y2.heap.size E (fun a => frB rf a = false) cnt) := hit.mono (fun (a : Ar) (h : False) => h.elim)
            clear hit hb
            generalize y2.heap.size = r at *
            go_wp2_with fail
            go_loopw [95] (fun _ wr => ∃ E1 cnt D, Hid (IterAt wr (w.heap.size + 1) r E1 (fun a => frB rf a = false) cnt) ∧ Hid (LSt w w.heap.size a0 len0 cap0 b2 c2 l2 (w.heap.size + 1) E1 wr) ∧ Hid (E.Perm (D ++ E1)) ∧ Hid (∀ d ∈ D, frB rf d = true)) (fun _ wr => wr.rangeLeft (w.heap.size + 1) r)
            case atStart => exact ⟨E, cnt, [], HI, HS, List.Perm.refl _, fun d hd => absurd hd (by simp)⟩
            case round =>
              clear HI HS
              obtain ⟨E1, cnt, D, HI, HS, HPD, HD⟩ := hrel
              have HM0 := Lib.hid HI.out.left_eq
              go_wp2_with (first | (at_next; refine wpList_step _ rfl _ rfl (w.heap.size + 1) r E1 _ cnt rfl HI.out ?_ ?_) | go_in)
              · intro hall
                have HPF := Lib.hid (HP2.out E1 D HPD.out HD.out hall)
                clear hall
                go_wp2_with fail
                go_meet
                exact ⟨b2, c2, l2, E1, rfl, by omega, HS, HC2, HPF⟩
              · intro e x1 cnt1 he hlt hit htick hen
                have HI1 := Lib.hid hit
                have HS1 := Lib.hid (HS.out.other htick (by omega) (by omega) HRG.out (by omega))
                have HKF : Hid (∀ e ∈ E1, KeyOK e) := fun e he => HKE.out e (HPD.out.mem_iff.2 (List.mem_append.2 (Or.inr he)))
                have HAF : Hid (Apart E1) := by
                  have h1 := HAE.out.perm HPD.out
                  unfold Hid Apart at *
                  exact (List.pairwise_append.1 h1).2.1
                have HIN := Lib.hid he
                clear hit htick he HI HS
                have hok := HKF.out e HIN.out
                obtain ⟨s, c0, fr, q1, q2⟩ := e
                unfold keyV arVal at hen
                unfold keyV arVal
                simp only at hen
                have h28 := Lib.hid hen
                go_upto_region 29 with (fail)
                have hb := ((Below.refl x1.heap.size x1).alloc (Nat.le_refl _) (Obj.cells #[Value.int IntKind.i64 s, Value.int IntKind.i64 c0] 48)).alloc (by simp) (Obj.cells #[Value.int IntKind.i64 s, Value.int IntKind.i64 c0, Value.int IntKind.i64 fr, Value.bool q1, Value.bool q2] 30)
                have HS2 := Lib.hid (HS1.out.below hb)
                have HI2 := Lib.hid (HI1.out.below hb)
                obtain ⟨b0, b1, v0, v1, v2, v3, v4⟩ := two_boxes x1 s c0 fr q1 q2
                generalize (x1.alloc (Obj.cells #[Value.int IntKind.i64 s, Value.int IntKind.i64 c0] 48)).alloc (Obj.cells #[Value.int IntKind.i64 s, Value.int IntKind.i64 c0, Value.int IntKind.i64 fr, Value.bool q1, Value.bool q2] 30) = x2 at *
                generalize x1.heap.size + 1 = VB at *
                generalize x1.heap.size = KB at *
                clear hb HS1 HI1 hen h28
                by_cases hfe : fr = rf
                · subst hfe
                  have HPE := Lib.hid (perm_take HAF.out HIN.out)
                  have HNE : Hid (∀ a ∈ E1.filter (notKey s c0), (frB fr a = false ∨ a = ⟨s, c0, fr, q1, q2⟩) → frB fr a = false) := fun a ha h => by
                    rcases h with h | h
                    · exact h
                    · have := (List.mem_filter.1 ha).2
                      rw [h] at this
                      unfold notKey keyB at this
                      simp at this
                  go_wp2_with (at_delete; refine wpList_deleteIt _ rfl _ _ rfl (w.heap.size + 1) r E1 _ cnt1 rfl HI2.out HKF.out HAF.out ⟨s, c0, fr, q1, q2⟩ hok rfl ?_)
                  intro x3 cnt2 hit2 hle2 htick2
                  have HS3 := Lib.hid (HS2.out.tickm htick2 hit2.map)
                  have HI3 := Lib.hid (hit2.strong HNE.out)
                  have HPD3 : Hid (E.Perm (((⟨s, c0, fr, q1, q2⟩ : Ar) :: D) ++ E1.filter (notKey s c0))) := HPD.out.trans ((HPE.out.append_left D).trans List.perm_middle)
                  have HD3 : Hid (∀ d ∈ (⟨s, c0, fr, q1, q2⟩ : Ar) :: D, frB fr d = true) := fun d hd => by
                    rcases List.mem_cons.1 hd with rfl | hd
                    · exact decide_eq_true rfl
                    · exact HD.out d hd
                  have HM3 := Lib.hid HI3.out.left_eq
                  clear hit2 htick2
                  go_wp2_with fail
                  go_roundw
                  case rel => exact ⟨_, cnt2, _, HI3, HS3, HPD3, HD3⟩
                  case measure => rw [HM3.out, HM0.out]; omega
                · have hfe2 : (fr == rf) = false := by simpa using hfe
                  have HI3 : Hid (IterAt x2 (w.heap.size + 1) r E1 (fun a => frB rf a = false) cnt1) := HI2.out.mono (fun a h => by
                    rcases h with h | rfl
                    · exact h
                    · exact decide_eq_false hfe)
                  have HM3 := Lib.hid HI3.out.left_eq
                  go_wp2_with fail
                  go_roundw
                  case rel => exact ⟨E1, cnt1, D, HI3, HS2, HPD, HD⟩
                  case measure => rw [HM3.out, HM0.out]; omega
        case rest =>
          clear HS HC HP HKE HAE hln
          obtain ⟨b2, c2, l2, E2, rfl, hln, HS, HC, HP⟩ := hcut
          have hlen : (l2.length : Int) = (E2.length : Int) := by rw [HP.out.length_eq]
          have hrl := run_len HS.out.map
          have HCK := Lib.hid (check_any 0 b2 l2 c2 _ HS.out.row (by omega))
          go_wp2_with fail
          refine HCK.out.mono ?_
          rintro e w5 ⟨rfl, hb⟩
          replace HS := Lib.hid (HS.out.below hb)
          rw [HC.out]
          clear hb HCK hrl hlen
          go_wp2_with (at_range; refine wpList_range47 _ rfl _ rfl (w.heap.size + 1) E2 rfl HS.out.map ?_)
          intro y3 cnt hit hb
          have hr1 : w.heap.size < w5.heap.size := HS.out.hi
          have hr2 : w.heap.size + 1 < w5.heap.size := HS.out.map.lt
          have HRG : Hid (∀ g, b2 = some ⟨g, 0, none⟩ → g ≠ w5.heap.size) := fun g hg => by have := (HS.out.row.blk hg).2; omega
          replace HS := Lib.hid (HS.out.below hb)
          have HI : Hid (IterAt y3 (w.heap.size + 1) w5.heap.size E2 (fun _ => True) cnt) := hit.mono (fun a _ => trivial)
          clear hit hb
          generalize w5.heap.size = r at *
          go_wp2_with fail
          go_loopw [118] (fun _ wr => ∃ cnt, Hid (IterAt wr (w.heap.size + 1) r E2 (fun _ => True) cnt) ∧ Hid (LSt w w.heap.size a0 len0 cap0 b2 c2 l2 (w.heap.size + 1) E2 wr)) (fun _ wr => wr.rangeLeft (w.heap.size + 1) r)
          case atStart => exact ⟨cnt, HI, HS⟩
          case round =>
            clear HI HS
            obtain ⟨cnt, HI, HS⟩ := hrel
            have HM0 := Lib.hid HI.out.left_eq
            go_wp2_with (first | (at_next; refine wpList_step _ rfl _ rfl (w.heap.size + 1) r E2 _ cnt rfl HI.out ?_ ?_) | go_in)
            · (try intro _)
              go_wp2_with fail
              go_roundw
              case rel => exact ⟨n + 1, b2, c2, l2, E2, by omega, by go_num, rfl, by omega, HS, HC, HP⟩
              case measure => simp [intOf]; omega
            · intro e x1 cnt1 he hlt2 hit htick hen
              have HI1 : Hid (IterAt x1 (w.heap.size + 1) r E2 (fun _ => True) cnt1) := hit.mono (fun a _ => trivial)
              have HS1 := Lib.hid (HS.out.other htick (by omega) (by omega) HRG.out (by omega))
              have HG := Lib.hid (get_held HC.out (HP.out.mem_iff.1 he))
              clear hit htick he HI HS
              obtain ⟨s, c0, fr, q1, q2⟩ := e
              unfold keyV arVal at hen
              unfold keyV arVal
              simp only at hen
              go_upto_region 36 with (fail)
              have hb := ((Below.refl x1.heap.size x1).alloc (Nat.le_refl _) (Obj.cells #[Value.int IntKind.i64 s, Value.int IntKind.i64 c0] 48)).alloc (by simp) (Obj.cells #[Value.int IntKind.i64 s, Value.int IntKind.i64 c0, Value.int IntKind.i64 fr, Value.bool q1, Value.bool q2] 30)
              have HS2 := Lib.hid (HS1.out.below hb)
              have HI2 := Lib.hid (HI1.out.below hb)
              obtain ⟨b0, b1, v0, v1, v2, v3, v4⟩ := two_boxes x1 s c0 fr q1 q2
              have HV : Hid (Blk ((x1.alloc (Obj.cells #[Value.int IntKind.i64 s, Value.int IntKind.i64 c0] 48)).alloc (Obj.cells #[Value.int IntKind.i64 s, Value.int IntKind.i64 c0, Value.int IntKind.i64 fr, Value.bool q1, Value.bool q2] 30)) (x1.heap.size + 1) ⟨s, c0, fr, q1, q2⟩) := two_blk x1 s c0 fr q1 q2
              generalize (x1.alloc (Obj.cells #[Value.int IntKind.i64 s, Value.int IntKind.i64 c0] 48)).alloc (Obj.cells #[Value.int IntKind.i64 s, Value.int IntKind.i64 c0, Value.int IntKind.i64 fr, Value.bool q1, Value.bool q2] 30) = x2 at *
              generalize x1.heap.size + 1 = VB at *
              generalize x1.heap.size = KB at *
              clear hb HS1 HI1 hen
              have HGT := Lib.hid (get_any 0 b2 l2 c2 s c0 x2 HS2.out.row (by omega))
              simp only at HG
              rw [HG.out] at HGT
              go_wp2_with fail
              refine HGT.out.mono ?_
              rintro e x3 ⟨rfl, hb⟩
              replace HS2 := Lib.hid (HS2.out.below hb)
              replace HI2 := Lib.hid (HI2.out.below hb)
              replace HV := Lib.hid (HV.out.below hb)
              clear hb HGT b0 b1 v0 v1 v2 v3 v4
              unfold optA arVal
              simp only [Option.getD_some, Option.isSome_some]
              go_upto_region 37 with (fail)
              have hb := (Below.refl x3.heap.size x3).alloc (Nat.le_refl _) (Obj.cells #[Value.int IntKind.i64 s, Value.int IntKind.i64 c0, Value.int IntKind.i64 fr, Value.bool q1, Value.bool q2] 30)
              have HS3 := Lib.hid (HS2.out.below hb)
              have HI3 := Lib.hid (HI2.out.below hb)
              have HV3 := Lib.hid (HV.out.below hb)
              have HW3 := Lib.hid (Blk.new x3 s c0 fr q1 q2)
              generalize x3.alloc (Obj.cells #[Value.int IntKind.i64 s, Value.int IntKind.i64 c0, Value.int IntKind.i64 fr, Value.bool q1, Value.bool q2] 30) = x4 at *
              generalize x3.heap.size = GB at *
              clear hb HS2 HI2 HV
              have k0 := HV3.out.c0; have k1 := HV3.out.c1; have k2 := HV3.out.c2; have k3 := HV3.out.c3; have k4 := HV3.out.c4
              have m0 := HW3.out.c0; have m1 := HW3.out.c1; have m2 := HW3.out.c2; have m3 := HW3.out.c3; have m4 := HW3.out.c4
              simp only at k0 k1 k2 k3 k4 m0 m1 m2 m3 m4
              have HM3 := Lib.hid HI3.out.left_eq
              go_wp2_with fail
              go_roundw
              case rel => exact ⟨cnt1, HI3, HS3⟩
              case measure => rw [HM3.out, HM0.out]; omega
    · obtain rfl : n = 30 := by omega
      go_wp2_with fail
      refine (awake_any _).mono ?_; rintro e w3 ⟨rfl, hb⟩
      have HB := Lib.hid (HS.out.bel.trans (hb.mono HS.out.bel.size))
      clear hb
      go_wp2_with fail
      go_ret
      exact RetW.mk rfl HB.out
end Go.Proofs.Ytodonnagmgbliaa
