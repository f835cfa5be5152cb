/- Searching a sorted list of entries. -/
import Derived.Test.YtodonnagmgbliaaCr
namespace Go.Proofs.Ytodonnagmgbliaa
open Go.ChangeShapes Go.WideShapes Go.ChangeAt Go.RowKit

def Sorted (l : List Ar) : Prop := ∀ i j, i < j → j < l.length → lessB (l.getD i Ar.zero) (l.getD j Ar.zero) = true
theorem lessB_iff {a b : Ar} : lessB a b = true ↔ (a.pr < b.pr ∨ a.pr = b.pr ∧ a.pa < b.pa) := by simp [lessB]
theorem lessB_trans {a b c : Ar} (h1 : lessB a b = true) (h2 : lessB b c = true) : lessB a c = true := by
  rw [lessB_iff] at *; omega
theorem checkV_at {l : List Ar} (h : checkV l = true) (k : Nat) (hk : k < l.length) : okAt l k = true := by
  unfold checkV chkTo at h
  exact List.all_eq_true.1 h k (List.mem_range.2 hk)
theorem checkV_right {l : List Ar} (h : checkV l = true) (k : Nat) (hk : k < l.length) : rightB (l.getD k Ar.zero) = true := by
  have := checkV_at h k hk
  unfold okAt at this
  exact (Bool.and_eq_true _ _ ▸ this).1
theorem checkV_sorted {l : List Ar} (h : checkV l = true) : Sorted l := by
  intro i j hij
  induction j with
  | zero => omega
  | succ j ih =>
    intro hj
    have h1 := checkV_at h (j + 1) hj
    unfold okAt at h1
    have h2 : lessB (l.getD j Ar.zero) (l.getD (j + 1) Ar.zero) = true := by simpa using (Bool.and_eq_true _ _ ▸ h1).2
    by_cases e : i = j
    · rw [e]; exact h2
    · exact lessB_trans (ih (by omega) (by omega)) h2
theorem checkV_iff {l : List Ar} : checkV l = true ↔ (∀ k, k < l.length → rightB (l.getD k Ar.zero) = true) ∧ Sorted l := by
  refine ⟨fun h => ⟨checkV_right h, checkV_sorted h⟩, fun ⟨h1, h2⟩ => ?_⟩
  unfold checkV chkTo
  rw [List.all_eq_true]
  intro k hk
  have hk := List.mem_range.1 hk
  unfold okAt
  rw [h1 k hk, Bool.true_and]
  by_cases e : k = 0
  · simp [e]
  · rw [h2 (k - 1) k (by omega) hk]; simp
/-- i is the place of e in l -/
def Place (l : List Ar) (e : Ar) (i : Nat) : Prop :=
  i ≤ l.length ∧ (∀ t, t < i → lessB (l.getD t Ar.zero) e = true) ∧ ∀ t, i ≤ t → t < l.length → lessB (l.getD t Ar.zero) e = false
def foundB (l : List Ar) (e : Ar) (i : Nat) : Bool := decide (i < l.length) && decide ((l.getD i Ar.zero).pr = e.pr ∧ (l.getD i Ar.zero).pa = e.pa)

set_option maxHeartbeats 4000000 in
theorem bsearch_any (B : Nat) (a : Option Addr) (l : List Ar) (cap : Nat) (e : Ar) (w : World) (h : ARow B a cap l w) (hl : l.length ≤ 100) (hs : Sorted l) :
    Calls Try.prog 33 #[.slice a l.length cap, arVal e, .func (.func 34) #[] #[]] w fun e' w' => ∃ i : Nat, Place l e i ∧ e' = .returned (.tuple #[.int .i64 i, .bool (foundB l e i)]) ∧ Below w.heap.size w w' := by
  have HA : Hid (∀ j, j < l.length → ∃ g, a = some ⟨g, 0, none⟩ ∧ g < w.heap.size ∧ (l.length : Int) ≤ cap ∧ Cel w g (j * 5) (l.getD j Ar.zero)) := by
    intro j hj
    obtain ⟨g, h1, h2, h3, h4, h5, h6⟩ := h.at (by omega)
    exact ⟨g, h1, h3, by omega, h6 j hj⟩
  clear h
  have HS := Lib.hid hs
  clear hs
  obtain ⟨n, hn⟩ : ∃ n, l.length = n := ⟨_, rfl⟩
  have HN := Lib.hid hn
  rw [hn] at hl ⊢
  have HA2 : Hid (∀ j, j < n → ∃ g, a = some ⟨g, 0, none⟩ ∧ g < w.heap.size ∧ (n : Int) ≤ cap ∧ Cel w g (j * 5) (l.getD j Ar.zero)) := by rw [← hn]; exact HA.out
  clear HA hn
  have HM := Lib.hid (fun x w => compare_any x e w)
  have hbl := Blk.new w e.pr e.pa e.fr e.wr e.ac
  have HBw : Hid (Below w.heap.size w (w.alloc (.cells #[.int .i64 e.pr, .int .i64 e.pa, .int .i64 e.fr, .bool e.wr, .bool e.ac] 30))) := (Below.refl _ w).alloc (Nat.le_refl _) _
  unfold arVal at HM ⊢
  obtain ⟨s', c', f', p', q'⟩ := e
  simp only at HM hbl HBw ⊢
  go_enter Try.func33, Try.ntmps33
  go_wp2_with fail
  generalize w.alloc (.cells #[.int .i64 s', .int .i64 c', .int .i64 f', .bool p', .bool q'] 30) = w2 at *
  have HBK : Hid (Blk w2 w.heap.size ⟨s', c', f', p', q'⟩) := hbl
  clear hbl
  go_loopw [9, 10] (fun v9 v10 wr => ∃ lo hi : Nat, v9 = .int .i64 lo ∧ v10 = .int .i64 hi ∧ lo ≤ hi ∧ hi ≤ n ∧ Hid (Below w.heap.size w wr) ∧ Hid (Blk wr w.heap.size ⟨s', c', f', p', q'⟩) ∧ Hid (∀ t, t < lo → lessB (l.getD t Ar.zero) ⟨s', c', f', p', q'⟩ = true) ∧ Hid (∀ t, hi ≤ t → t < n → lessB (l.getD t Ar.zero) ⟨s', c', f', p', q'⟩ = false)) (fun v9 v10 _ => (intOf v10 - intOf v9).toNat)
  case atStart => exact ⟨0, n, rfl, rfl, Nat.zero_le _, Nat.le_refl _, HBw, HBK, fun t ht => absurd ht (Nat.not_lt_zero _), fun t h1 h2 => absurd h2 (by omega)⟩
  case round =>
    obtain ⟨lo, hi, rfl, rfl, hlh, hin, HB, HK, HLo, HHi⟩ := hrel
    have hA := HK.out.hi
    have c0 := HK.out.c0; have c1 := HK.out.c1; have c2 := HK.out.c2; have c3 := HK.out.c3; have c4 := HK.out.c4
    simp only at c0 c1 c2 c3 c4
    by_cases hlt : lo < hi
    · obtain ⟨m, hm⟩ : ∃ m, m = (lo + hi) / 2 := ⟨_, rfl⟩
      have hmn : m < n := by omega
      obtain ⟨g, rfl, hg, hcap, hcel⟩ := HA2.out m hmn
      have hcw := hcel.eq (w' := wr) (fun i => HB.out.cell (p := ⟨g, i, none⟩) hg)
      have hg2 : g < wr.heap.size := Nat.lt_of_lt_of_le hg HB.out.size
      have hsl : ∀ t, t < m → lessB (l.getD t Ar.zero) (l.getD m Ar.zero) = true := fun t ht => HS.out t m ht (by rw [HN.out]; exact hmn)
      have hsg : ∀ t, m < t → t < n → lessB (l.getD m Ar.zero) (l.getD t Ar.zero) = true := fun t h1 h2 => HS.out m t h1 (by rw [HN.out]; exact h2)
      have HSL := Lib.hid hsl; have HSG := Lib.hid hsg
      have HEM : Hid (∃ em, em = l.getD m Ar.zero) := ⟨_, rfl⟩
      clear hsl hsg hcel
      obtain ⟨em, hem⟩ := HEM.out
      rw [← hem] at hcw HSL HSG
      have HEM2 := Lib.hid hem
      have hc := HM.out em
      have HLE := Lib.hid (@le_of_lessB em ⟨s', c', f', p', q'⟩)
      have HGE := Lib.hid (@ge_of_lessB em ⟨s', c', f', p', q'⟩)
      clear hem HEM HM
      obtain ⟨k0, k1, k2, k3, k4⟩ := hcw
      obtain ⟨s, c, f, p, q⟩ := em
      simp only at hc k0 k1 k2 k3 k4
      generalize cmpP ⟨s, c, f, p, q⟩ ⟨s', c', f', p', q'⟩ = cm at *
      have HC := Lib.hid hc
      clear hc
      have hm2 : ((lo : Int) + (hi : Int)) / 2 = (m : Int) := by omega
      have hmi : (m : Int) < (n : Int) := by omega
      have HMM := Lib.hid hm
      clear hm
      have HBd := Lib.hid HB.out.drew
      have HKd := Lib.hid (HK.out.below (Below.refl _ _).drew)
      by_cases hcm : cm < 0
      · have hless : Hid (lessB ⟨s, c, f, p, q⟩ ⟨s', c', f', p', q'⟩ = true) := by
          unfold Hid
          cases hh : lessB ⟨s, c, f, p, q⟩ ⟨s', c', f', p', q'⟩ with
          | true => rfl
          | false =>
            have := HGE.out hh
            omega
        go_wp2_with fail
        go_region_held3 (fun w' => w'.cell? ⟨w.heap.size, 0, none⟩ = some (.int .i64 s') ∧ w'.cell? ⟨w.heap.size, 1, none⟩ = some (.int .i64 c') ∧ w'.cell? ⟨w.heap.size, 2, none⟩ = some (.int .i64 f') ∧ w'.cell? ⟨w.heap.size, 3, none⟩ = some (.bool p') ∧ w'.cell? ⟨w.heap.size, 4, none⟩ = some (.bool q') ∧ w'.cell? ⟨g, m * 5, none⟩ = some (.int .i64 s) ∧ w'.cell? ⟨g, m * 5 + 1, none⟩ = some (.int .i64 c) ∧ w'.cell? ⟨g, m * 5 + 2, none⟩ = some (.int .i64 f) ∧ w'.cell? ⟨g, m * 5 + 3, none⟩ = some (.bool p) ∧ w'.cell? ⟨g, m * 5 + 4, none⟩ = some (.bool q)) (go_keep) (first | (refine (HC.out _).mono ?_; rintro e w3 ⟨rfl, hb⟩; have j0 := (hb.cell (p := ⟨w.heap.size, 0, none⟩) hA).trans c0; have j1 := (hb.cell (p := ⟨w.heap.size, 1, none⟩) hA).trans c1; have j2 := (hb.cell (p := ⟨w.heap.size, 2, none⟩) hA).trans c2; have j3 := (hb.cell (p := ⟨w.heap.size, 3, none⟩) hA).trans c3; have j4 := (hb.cell (p := ⟨w.heap.size, 4, none⟩) hA).trans c4; have i0 := (hb.cell (p := ⟨g, m * 5, none⟩) hg2).trans k0; have i1 := (hb.cell (p := ⟨g, m * 5 + 1, none⟩) hg2).trans k1; have i2 := (hb.cell (p := ⟨g, m * 5 + 2, none⟩) hg2).trans k2; have i3 := (hb.cell (p := ⟨g, m * 5 + 3, none⟩) hg2).trans k3; have i4 := (hb.cell (p := ⟨g, m * 5 + 4, none⟩) hg2).trans k4; have HB3 := Lib.hid (HBd.out.trans (hb.mono HBd.out.size)); have HK3 := Lib.hid (HKd.out.below hb)))
        go_wp2_with fail
        go_roundw
        case measure => simp [intOf]; omega
        case rel => exact ⟨m + 1, hi, by go_num, rfl, by omega, hin, HB3, HK3, fun t ht => by
              by_cases e : t = m
              · subst e; rw [← HEM2.out]; exact hless.out
              · exact lessB_trans (HSL.out t (by omega)) hless.out, HHi⟩
      · have hless : Hid (lessB ⟨s, c, f, p, q⟩ ⟨s', c', f', p', q'⟩ = false) := by
          unfold Hid
          cases hh : lessB ⟨s, c, f, p, q⟩ ⟨s', c', f', p', q'⟩ with
          | false => rfl
          | true =>
            have := HLE.out hh
            omega
        go_wp2_with fail
        go_region_held3 (fun w' => w'.cell? ⟨w.heap.size, 0, none⟩ = some (.int .i64 s') ∧ w'.cell? ⟨w.heap.size, 1, none⟩ = some (.int .i64 c') ∧ w'.cell? ⟨w.heap.size, 2, none⟩ = some (.int .i64 f') ∧ w'.cell? ⟨w.heap.size, 3, none⟩ = some (.bool p') ∧ w'.cell? ⟨w.heap.size, 4, none⟩ = some (.bool q') ∧ w'.cell? ⟨g, m * 5, none⟩ = some (.int .i64 s) ∧ w'.cell? ⟨g, m * 5 + 1, none⟩ = some (.int .i64 c) ∧ w'.cell? ⟨g, m * 5 + 2, none⟩ = some (.int .i64 f) ∧ w'.cell? ⟨g, m * 5 + 3, none⟩ = some (.bool p) ∧ w'.cell? ⟨g, m * 5 + 4, none⟩ = some (.bool q)) (go_keep) (first | (refine (HC.out _).mono ?_; rintro e w3 ⟨rfl, hb⟩; have j0 := (hb.cell (p := ⟨w.heap.size, 0, none⟩) hA).trans c0; have j1 := (hb.cell (p := ⟨w.heap.size, 1, none⟩) hA).trans c1; have j2 := (hb.cell (p := ⟨w.heap.size, 2, none⟩) hA).trans c2; have j3 := (hb.cell (p := ⟨w.heap.size, 3, none⟩) hA).trans c3; have j4 := (hb.cell (p := ⟨w.heap.size, 4, none⟩) hA).trans c4; have i0 := (hb.cell (p := ⟨g, m * 5, none⟩) hg2).trans k0; have i1 := (hb.cell (p := ⟨g, m * 5 + 1, none⟩) hg2).trans k1; have i2 := (hb.cell (p := ⟨g, m * 5 + 2, none⟩) hg2).trans k2; have i3 := (hb.cell (p := ⟨g, m * 5 + 3, none⟩) hg2).trans k3; have i4 := (hb.cell (p := ⟨g, m * 5 + 4, none⟩) hg2).trans k4; have HB3 := Lib.hid (HBd.out.trans (hb.mono HBd.out.size)); have HK3 := Lib.hid (HKd.out.below hb)))
        go_wp2_with fail
        go_roundw
        case measure => simp [intOf]; omega
        case rel => exact ⟨lo, m, rfl, by go_num, by omega, by omega, HB3, HK3, HLo, fun t h1 h2 => by
              by_cases e : t = m
              · subst e; rw [← HEM2.out]; exact hless.out
              · cases hh : lessB (l.getD t Ar.zero) ⟨s', c', f', p', q'⟩ with
                | false => rfl
                | true =>
                  have := lessB_trans (HSG.out t (by omega) h2) hh
                  rw [hless.out] at this
                  cases this⟩
    · obtain rfl : hi = lo := by omega
      have HP : Hid (Place l ⟨s', c', f', p', q'⟩ hi) := ⟨by rw [HN.out]; exact hin, HLo.out, fun t h1 h2 => HHi.out t h1 (by rw [← HN.out]; exact h2)⟩
      have HBd := Lib.hid HB.out.drew
      have HKd := Lib.hid (HK.out.below (Below.refl _ _).drew)
      have HF : Hid (foundB l ⟨s', c', f', p', q'⟩ hi = (decide (hi < n) && decide ((l.getD hi Ar.zero).pr = s' ∧ (l.getD hi Ar.zero).pa = c'))) := by rw [← HN.out]; exact rfl
      clear HLo HHi
      by_cases hmn : hi < n
      · obtain ⟨g, rfl, hg, hcap, hcel⟩ := HA2.out hi hmn
        have hcw := hcel.eq (w' := wr) (fun i => HB.out.cell (p := ⟨g, i, none⟩) hg)
        have hg2 : g < wr.heap.size := Nat.lt_of_lt_of_le hg HB.out.size
        rw [decide_eq_true hmn, Bool.true_and] at HF
        generalize l.getD hi Ar.zero = em at *
        have hc := HM.out em
        have hz := cmpP_zero em ⟨s', c', f', p', q'⟩
        clear HM hcel
        obtain ⟨k0, k1, k2, k3, k4⟩ := hcw
        obtain ⟨s, c, f, p, q⟩ := em
        simp only at hc k0 k1 k2 k3 k4 hz HF
        generalize cmpP ⟨s, c, f, p, q⟩ ⟨s', c', f', p', q'⟩ = cm at *
        have HC := Lib.hid hc
        have HZ : Hid (decide (s = s' ∧ c = c') = decide (cm = 0)) := by
          unfold Hid; congr 1; exact propext hz.symm
        rw [HZ.out] at HF
        clear hc hz
        have hmi : (hi : Int) < (n : Int) := by omega
        go_wp2_with fail
        refine wp_region_held_drew (S := fun w' => w'.cell? ⟨w.heap.size, 0, none⟩ = some (.int .i64 s') ∧ w'.cell? ⟨w.heap.size, 1, none⟩ = some (.int .i64 c') ∧ w'.cell? ⟨w.heap.size, 2, none⟩ = some (.int .i64 f') ∧ w'.cell? ⟨w.heap.size, 3, none⟩ = some (.bool p') ∧ w'.cell? ⟨w.heap.size, 4, none⟩ = some (.bool q') ∧ w'.cell? ⟨g, hi * 5, none⟩ = some (.int .i64 s) ∧ w'.cell? ⟨g, hi * 5 + 1, none⟩ = some (.int .i64 c) ∧ w'.cell? ⟨g, hi * 5 + 2, none⟩ = some (.int .i64 f) ∧ w'.cell? ⟨g, hi * 5 + 3, none⟩ = some (.bool p) ∧ w'.cell? ⟨g, hi * 5 + 4, none⟩ = some (.bool q)) (by kernel_rfl) (by (try dsimp only); go_keep) (fun hHeld => ?_)
        refine wpAnyH_take (i := 0) (oi := { dst := some 35, op := Op.move (Operand.tmp 9), type := 3, pos := "sort.go:167", after := #[], guard := none }) (v := ?_) rfl (by kernel_rfl) (by kernel_rfl) (by kernel_rfl) (fun _ _ _ h => h) (Or.inl ⟨by rfl, ?_⟩) (by assumption) ?_
        rotate_left
        focus ((intro w hSw; (try dsimp only at hSw); go_simp) <;> (try with_reducible rfl))
        try simp only [Act.put, List.setIfInBounds_toArray, List.set_cons_zero, List.set_cons_succ]
        refine wpAnyH_take (i := 1) (oi := { dst := some 36, op := Op.move (Operand.tmp 9), type := 3, pos := "sort.go:167", after := #[], guard := none }) (v := ?_) rfl (by kernel_rfl) (by kernel_rfl) (by kernel_rfl) (fun _ _ _ h => h) (Or.inl ⟨by rfl, ?_⟩) (by assumption) ?_
        rotate_left
        focus ((intro w hSw; (try dsimp only at hSw); go_simp) <;> (try with_reducible rfl))
        try simp only [Act.put, List.setIfInBounds_toArray, List.set_cons_zero, List.set_cons_succ]
        refine wpAnyH_take (i := 2) (oi := { dst := some 37, op := Op.move (Operand.tmp 8), type := 3, pos := "sort.go:167", after := #[], guard := none }) (v := ?_) rfl (by kernel_rfl) (by kernel_rfl) (by kernel_rfl) (fun _ _ _ h => h) (Or.inl ⟨by rfl, ?_⟩) (by assumption) ?_
        rotate_left
        focus ((intro w hSw; (try dsimp only at hSw); go_simp) <;> (try with_reducible rfl))
        try simp only [Act.put, List.setIfInBounds_toArray, List.set_cons_zero, List.set_cons_succ]
        refine wpAnyH_take (i := 3) (oi := { dst := some 38, op := Op.binOp BinOp.lss 3 (Operand.tmp 36) (Operand.tmp 37) 3, type := 4, pos := "sort.go:167", after := #[{ on := 1, ground := Ground.data }, { on := 2, ground := Ground.data }], guard := none }) (v := ?_) rfl (by kernel_rfl) (by kernel_rfl) (by kernel_rfl) (fun _ _ _ h => h) (Or.inl ⟨by rfl, ?_⟩) (by assumption) ?_
        rotate_left
        focus ((intro w hSw; (try dsimp only at hSw); go_simp) <;> (try with_reducible rfl))
        try simp only [Act.put, List.setIfInBounds_toArray, List.set_cons_zero, List.set_cons_succ]
        refine wpAnyH_take (i := 4) (oi := { dst := some 39, op := Op.move (Operand.tmp 38), type := 4, pos := "sort.go:167", after := #[{ on := 3, ground := Ground.data }], guard := none }) (v := ?_) rfl (by kernel_rfl) (by kernel_rfl) (by kernel_rfl) (fun _ _ _ h => h) (Or.inl ⟨by rfl, ?_⟩) (by assumption) ?_
        rotate_left
        focus ((intro w hSw; (try dsimp only at hSw); go_simp) <;> (try with_reducible rfl))
        try simp only [Act.put, List.setIfInBounds_toArray, List.set_cons_zero, List.set_cons_succ]
        refine wpAnyH_take (i := 5) (oi := { dst := some 40, op := Op.move (Operand.tmp 2), type := 53, pos := "sort.go:167", after := #[{ on := 4, ground := Ground.guard }], guard := some (4, true) }) (v := ?_) rfl (by kernel_rfl) (by kernel_rfl) (by kernel_rfl) (fun _ _ _ h => h) (Or.inl ⟨by rfl, ?_⟩) (by assumption) ?_
        rotate_left
        focus ((intro w hSw; (try dsimp only at hSw); go_simp) <;> (try with_reducible rfl))
        try simp only [Act.put, List.setIfInBounds_toArray, List.set_cons_zero, List.set_cons_succ]
        refine wpAnyH_take (i := 6) (oi := { dst := some 41, op := Op.move (Operand.tmp 0), type := 26, pos := "sort.go:167", after := #[{ on := 4, ground := Ground.guard }], guard := some (4, true) }) (v := ?_) rfl (by kernel_rfl) (by kernel_rfl) (by kernel_rfl) (fun _ _ _ h => h) (Or.inl ⟨by rfl, ?_⟩) (by assumption) ?_
        rotate_left
        focus ((intro w hSw; (try dsimp only at hSw); go_simp) <;> (try with_reducible rfl))
        try simp only [Act.put, List.setIfInBounds_toArray, List.set_cons_zero, List.set_cons_succ]
        refine wpAnyH_take (i := 7) (oi := { dst := some 42, op := Op.move (Operand.tmp 9), type := 3, pos := "sort.go:167", after := #[{ on := 4, ground := Ground.guard }], guard := some (4, true) }) (v := ?_) rfl (by kernel_rfl) (by kernel_rfl) (by kernel_rfl) (fun _ _ _ h => h) (Or.inl ⟨by rfl, ?_⟩) (by assumption) ?_
        rotate_left
        focus ((intro w hSw; (try dsimp only at hSw); go_simp) <;> (try with_reducible rfl))
        try simp only [Act.put, List.setIfInBounds_toArray, List.set_cons_zero, List.set_cons_succ]
        refine wpAnyH_take (i := 8) (oi := { dst := some 43, op := Op.indexAddr 26 (Operand.tmp 41) (Operand.tmp 42), type := 0, pos := "sort.go:167", after := #[{ on := 6, ground := Ground.data }, { on := 7, ground := Ground.data }, { on := 4, ground := Ground.guard }], guard := some (4, true) }) (v := ?_) rfl (by kernel_rfl) (by kernel_rfl) (by kernel_rfl) (fun _ _ _ h => h) (Or.inl ⟨by rfl, ?_⟩) (by assumption) ?_
        rotate_left
        focus ((intro w hSw; (try dsimp only at hSw); go_simp) <;> (try with_reducible rfl))
        try simp only [Act.put, List.setIfInBounds_toArray, List.set_cons_zero, List.set_cons_succ]
        refine wpAnyH_take (i := 9) (oi := { dst := some 44, op := Op.load 30 (Operand.tmp 43), type := 30, pos := "sort.go:167", after := #[{ on := 8, ground := Ground.data }, { on := 4, ground := Ground.guard }], guard := some (4, true) }) (v := ?_) rfl (by kernel_rfl) (by kernel_rfl) (by kernel_rfl) (fun _ _ _ h => h) (Or.inl ⟨by rfl, ?_⟩) (by assumption) ?_
        rotate_left
        focus ((intro w hSw; (try dsimp only at hSw); go_simp) <;> (try with_reducible rfl))
        try simp only [Act.put, List.setIfInBounds_toArray, List.set_cons_zero, List.set_cons_succ]
        refine wpAnyH_take (i := 10) (oi := { dst := some 45, op := Op.load 30 (Operand.tmp 4), type := 30, pos := "sort.go:167", after := #[{ on := 4, ground := Ground.guard }], guard := some (4, true) }) (v := ?_) rfl (by kernel_rfl) (by kernel_rfl) (by kernel_rfl) (fun _ _ _ h => h) (Or.inl ⟨by rfl, ?_⟩) (by assumption) ?_
        rotate_left
        focus ((intro w hSw; (try dsimp only at hSw); go_simp) <;> (try with_reducible rfl))
        try simp only [Act.put, List.setIfInBounds_toArray, List.set_cons_zero, List.set_cons_succ]
        refine wpAnyH_ready (rs := [11]) (by kernel_rfl) (by simp) ?_
        refine AllReadyH.cons (o := { dst := some 46, op := Op.call { callee := Callee.value (Operand.tmp 40), args := #[Operand.tmp 44, Operand.tmp 45], argTypes := #[30, 30] }, type := 3, pos := "sort.go:167", after := #[{ on := 5, ground := Ground.data }, { on := 9, ground := Ground.data }, { on := 10, ground := Ground.data }, { on := 4, ground := Ground.chain }, { on := 4, ground := Ground.guard }], guard := some (4, true) }) rfl (fun K hK => ?_) AllReadyH.nil
        go_simp
        (first | (refine (HC.out _).mono ?_; rintro e w3 ⟨rfl, hb⟩; have j0 := (hb.cell (p := ⟨w.heap.size, 0, none⟩) hA).trans c0; have j1 := (hb.cell (p := ⟨w.heap.size, 1, none⟩) hA).trans c1; have j2 := (hb.cell (p := ⟨w.heap.size, 2, none⟩) hA).trans c2; have j3 := (hb.cell (p := ⟨w.heap.size, 3, none⟩) hA).trans c3; have j4 := (hb.cell (p := ⟨w.heap.size, 4, none⟩) hA).trans c4; have i0 := (hb.cell (p := ⟨g, hi * 5, none⟩) hg2).trans k0; have i1 := (hb.cell (p := ⟨g, hi * 5 + 1, none⟩) hg2).trans k1; have i2 := (hb.cell (p := ⟨g, hi * 5 + 2, none⟩) hg2).trans k2; have i3 := (hb.cell (p := ⟨g, hi * 5 + 3, none⟩) hg2).trans k3; have i4 := (hb.cell (p := ⟨g, hi * 5 + 4, none⟩) hg2).trans k4; have HB3 := Lib.hid (HBd.out.trans (hb.mono HBd.out.size)); have HK3 := Lib.hid (HKd.out.below hb)))
        go_wp2_with fail
        refine hK.out _ _ (by (try dsimp only); go_keep) (fun hHeld => ?_)
        clear hK K
        try simp only [Act.put, List.setIfInBounds_toArray, List.set_cons_zero, List.set_cons_succ]
        refine wpAnyH_take (i := 12) (oi := { dst := some 47, op := Op.binOp BinOp.eql 3 (Operand.tmp 46) (Operand.const (Value.int IntKind.i64 0)) 3, type := 4, pos := "sort.go:167", after := #[{ on := 11, ground := Ground.data }, { on := 4, ground := Ground.guard }, { on := 14, ground := Ground.gcOnly Departure.lateStores }], guard := some (4, true) }) (v := ?_) rfl (by kernel_rfl) (by kernel_rfl) (by kernel_rfl) (fun _ _ _ h => h) (Or.inl ⟨by rfl, ?_⟩) (by assumption) ?_
        rotate_left
        focus ((intro w hSw; (try dsimp only at hSw); go_simp) <;> (try with_reducible rfl))
        try simp only [Act.put, List.setIfInBounds_toArray, List.set_cons_zero, List.set_cons_succ]
        refine wpAnyH_take (i := 13) (oi := { dst := some 48, op := Op.pick (Operand.tmp 39) (Operand.tmp 47) (Operand.const (Value.bool false)), type := 4, pos := "sort.go:167", after := #[{ on := 4, ground := Ground.data }, { on := 12, ground := Ground.data }, { on := 14, ground := Ground.gcOnly Departure.lateStores }], guard := none }) (v := ?_) rfl (by kernel_rfl) (by kernel_rfl) (by kernel_rfl) (fun _ _ _ h => h) (Or.inl ⟨by rfl, ?_⟩) (by assumption) ?_
        rotate_left
        focus ((intro w hSw; (try dsimp only at hSw); go_simp) <;> (try with_reducible rfl))
        try simp only [Act.put, List.setIfInBounds_toArray, List.set_cons_zero, List.set_cons_succ]
        refine wpAnyH_take (i := 14) (oi := { dst := some 6, op := Op.assign (Operand.tmp 35), type := 3, pos := "sort.go:167", after := #[{ on := 0, ground := Ground.data }, { on := 11, ground := Ground.chain }, { on := 0, ground := Ground.phase }, { on := 1, ground := Ground.textOnly Departure.lateStores }, { on := 2, ground := Ground.textOnly Departure.lateStores }, { on := 3, ground := Ground.textOnly Departure.lateStores }, { on := 4, ground := Ground.textOnly Departure.lateStores }, { on := 5, ground := Ground.textOnly Departure.lateStores }, { on := 6, ground := Ground.textOnly Departure.lateStores }, { on := 7, ground := Ground.textOnly Departure.lateStores }, { on := 8, ground := Ground.textOnly Departure.lateStores }, { on := 9, ground := Ground.textOnly Departure.lateStores }, { on := 10, ground := Ground.textOnly Departure.lateStores }, { on := 11, ground := Ground.textOnly Departure.lateStoresUnsure }, { on := 12, ground := Ground.textOnly Departure.lateStores }, { on := 13, ground := Ground.textOnly Departure.lateStores }], guard := none }) (v := ?_) rfl (by kernel_rfl) (by kernel_rfl) (by kernel_rfl) (fun _ _ _ h => h) (Or.inl ⟨by rfl, ?_⟩) (by assumption) ?_
        rotate_left
        focus ((intro w hSw; (try dsimp only at hSw); go_simp) <;> (try with_reducible rfl))
        try simp only [Act.put, List.setIfInBounds_toArray, List.set_cons_zero, List.set_cons_succ]
        refine wpAnyH_take (i := 15) (oi := { dst := some 7, op := Op.assign (Operand.tmp 48), type := 4, pos := "sort.go:167", after := #[{ on := 13, ground := Ground.data }, { on := 14, ground := Ground.chain }, { on := 0, ground := Ground.phase }, { on := 1, ground := Ground.phase }, { on := 2, ground := Ground.phase }, { on := 3, ground := Ground.phase }, { on := 4, ground := Ground.phase }, { on := 5, ground := Ground.phase }, { on := 6, ground := Ground.phase }, { on := 7, ground := Ground.phase }, { on := 8, ground := Ground.phase }, { on := 9, ground := Ground.phase }, { on := 10, ground := Ground.phase }, { on := 11, ground := Ground.phase }, { on := 12, ground := Ground.phase }, { on := 13, ground := Ground.phase }, { on := 14, ground := Ground.phase }], guard := none }) (v := ?_) rfl (by kernel_rfl) (by kernel_rfl) (by kernel_rfl) (fun _ _ _ h => h) (Or.inl ⟨by rfl, ?_⟩) (by assumption) ?_
        rotate_left
        focus ((intro w hSw; (try dsimp only at hSw); go_simp) <;> (try with_reducible rfl))
        try simp only [Act.put, List.setIfInBounds_toArray, List.set_cons_zero, List.set_cons_succ]
        refine wpAnyH_done (by kernel_rfl) ?_ _
        go_wp2_with fail
        go_ret2
        exact ⟨hi, HP.out, by rw [HF.out]; rfl, HB3.out⟩
      · have hmi : ¬ (hi : Int) < (n : Int) := by omega
        rw [decide_eq_false hmn, Bool.false_and] at HF
        have HB3 := HBd
        go_wp2_with fail
        refine wp_region_held_drew (S := fun w' => w'.cell? ⟨w.heap.size, 0, none⟩ = some (.int .i64 s') ∧ w'.cell? ⟨w.heap.size, 1, none⟩ = some (.int .i64 c') ∧ w'.cell? ⟨w.heap.size, 2, none⟩ = some (.int .i64 f') ∧ w'.cell? ⟨w.heap.size, 3, none⟩ = some (.bool p') ∧ w'.cell? ⟨w.heap.size, 4, none⟩ = some (.bool q')) (by kernel_rfl) (by (try dsimp only); go_keep) (fun hHeld => ?_)
        refine wpAnyH_take (i := 0) (oi := { dst := some 35, op := Op.move (Operand.tmp 9), type := 3, pos := "sort.go:167", after := #[], guard := none }) (v := ?_) rfl (by kernel_rfl) (by kernel_rfl) (by kernel_rfl) (fun _ _ _ h => h) (Or.inl ⟨by rfl, ?_⟩) (by assumption) ?_
        rotate_left
        focus ((intro w hSw; (try dsimp only at hSw); go_simp) <;> (try with_reducible rfl))
        try simp only [Act.put, List.setIfInBounds_toArray, List.set_cons_zero, List.set_cons_succ]
        refine wpAnyH_take (i := 1) (oi := { dst := some 36, op := Op.move (Operand.tmp 9), type := 3, pos := "sort.go:167", after := #[], guard := none }) (v := ?_) rfl (by kernel_rfl) (by kernel_rfl) (by kernel_rfl) (fun _ _ _ h => h) (Or.inl ⟨by rfl, ?_⟩) (by assumption) ?_
        rotate_left
        focus ((intro w hSw; (try dsimp only at hSw); go_simp) <;> (try with_reducible rfl))
        try simp only [Act.put, List.setIfInBounds_toArray, List.set_cons_zero, List.set_cons_succ]
        refine wpAnyH_take (i := 2) (oi := { dst := some 37, op := Op.move (Operand.tmp 8), type := 3, pos := "sort.go:167", after := #[], guard := none }) (v := ?_) rfl (by kernel_rfl) (by kernel_rfl) (by kernel_rfl) (fun _ _ _ h => h) (Or.inl ⟨by rfl, ?_⟩) (by assumption) ?_
        rotate_left
        focus ((intro w hSw; (try dsimp only at hSw); go_simp) <;> (try with_reducible rfl))
        try simp only [Act.put, List.setIfInBounds_toArray, List.set_cons_zero, List.set_cons_succ]
        refine wpAnyH_take (i := 3) (oi := { dst := some 38, op := Op.binOp BinOp.lss 3 (Operand.tmp 36) (Operand.tmp 37) 3, type := 4, pos := "sort.go:167", after := #[{ on := 1, ground := Ground.data }, { on := 2, ground := Ground.data }], guard := none }) (v := ?_) rfl (by kernel_rfl) (by kernel_rfl) (by kernel_rfl) (fun _ _ _ h => h) (Or.inl ⟨by rfl, ?_⟩) (by assumption) ?_
        rotate_left
        focus ((intro w hSw; (try dsimp only at hSw); go_simp) <;> (try with_reducible rfl))
        try simp only [Act.put, List.setIfInBounds_toArray, List.set_cons_zero, List.set_cons_succ]
        refine wpAnyH_take (i := 4) (oi := { dst := some 39, op := Op.move (Operand.tmp 38), type := 4, pos := "sort.go:167", after := #[{ on := 3, ground := Ground.data }], guard := none }) (v := ?_) rfl (by kernel_rfl) (by kernel_rfl) (by kernel_rfl) (fun _ _ _ h => h) (Or.inl ⟨by rfl, ?_⟩) (by assumption) ?_
        rotate_left
        focus ((intro w hSw; (try dsimp only at hSw); go_simp) <;> (try with_reducible rfl))
        try simp only [Act.put, List.setIfInBounds_toArray, List.set_cons_zero, List.set_cons_succ]
        refine wpAnyH_take (i := 5) (oi := { dst := some 40, op := Op.move (Operand.tmp 2), type := 53, pos := "sort.go:167", after := #[{ on := 4, ground := Ground.guard }], guard := some (4, true) }) (v := undef) rfl (by kernel_rfl) (by kernel_rfl) (by kernel_rfl) (fun _ _ _ h => h) (Or.inr ⟨by rfl, rfl⟩) (by assumption) ?_
        try simp only [Act.put, List.setIfInBounds_toArray, List.set_cons_zero, List.set_cons_succ]
        refine wpAnyH_take (i := 6) (oi := { dst := some 41, op := Op.move (Operand.tmp 0), type := 26, pos := "sort.go:167", after := #[{ on := 4, ground := Ground.guard }], guard := some (4, true) }) (v := undef) rfl (by kernel_rfl) (by kernel_rfl) (by kernel_rfl) (fun _ _ _ h => h) (Or.inr ⟨by rfl, rfl⟩) (by assumption) ?_
        try simp only [Act.put, List.setIfInBounds_toArray, List.set_cons_zero, List.set_cons_succ]
        refine wpAnyH_take (i := 7) (oi := { dst := some 42, op := Op.move (Operand.tmp 9), type := 3, pos := "sort.go:167", after := #[{ on := 4, ground := Ground.guard }], guard := some (4, true) }) (v := undef) rfl (by kernel_rfl) (by kernel_rfl) (by kernel_rfl) (fun _ _ _ h => h) (Or.inr ⟨by rfl, rfl⟩) (by assumption) ?_
        try simp only [Act.put, List.setIfInBounds_toArray, List.set_cons_zero, List.set_cons_succ]
        refine wpAnyH_take (i := 8) (oi := { dst := some 43, op := Op.indexAddr 26 (Operand.tmp 41) (Operand.tmp 42), type := 0, pos := "sort.go:167", after := #[{ on := 6, ground := Ground.data }, { on := 7, ground := Ground.data }, { on := 4, ground := Ground.guard }], guard := some (4, true) }) (v := undef) rfl (by kernel_rfl) (by kernel_rfl) (by kernel_rfl) (fun _ _ _ h => h) (Or.inr ⟨by rfl, rfl⟩) (by assumption) ?_
        try simp only [Act.put, List.setIfInBounds_toArray, List.set_cons_zero, List.set_cons_succ]
        refine wpAnyH_take (i := 9) (oi := { dst := some 44, op := Op.load 30 (Operand.tmp 43), type := 30, pos := "sort.go:167", after := #[{ on := 8, ground := Ground.data }, { on := 4, ground := Ground.guard }], guard := some (4, true) }) (v := undef) rfl (by kernel_rfl) (by kernel_rfl) (by kernel_rfl) (fun _ _ _ h => h) (Or.inr ⟨by rfl, rfl⟩) (by assumption) ?_
        try simp only [Act.put, List.setIfInBounds_toArray, List.set_cons_zero, List.set_cons_succ]
        refine wpAnyH_take (i := 10) (oi := { dst := some 45, op := Op.load 30 (Operand.tmp 4), type := 30, pos := "sort.go:167", after := #[{ on := 4, ground := Ground.guard }], guard := some (4, true) }) (v := undef) rfl (by kernel_rfl) (by kernel_rfl) (by kernel_rfl) (fun _ _ _ h => h) (Or.inr ⟨by rfl, rfl⟩) (by assumption) ?_
        try simp only [Act.put, List.setIfInBounds_toArray, List.set_cons_zero, List.set_cons_succ]
        refine wpAnyH_take (i := 11) (oi := { dst := some 46, op := Op.call { callee := Callee.value (Operand.tmp 40), args := #[Operand.tmp 44, Operand.tmp 45], argTypes := #[30, 30] }, type := 3, pos := "sort.go:167", after := #[{ on := 5, ground := Ground.data }, { on := 9, ground := Ground.data }, { on := 10, ground := Ground.data }, { on := 4, ground := Ground.chain }, { on := 4, ground := Ground.guard }], guard := some (4, true) }) (v := undef) rfl (by kernel_rfl) (by kernel_rfl) (by kernel_rfl) (fun _ _ _ h => h) (Or.inr ⟨by rfl, rfl⟩) (by assumption) ?_
        try simp only [Act.put, List.setIfInBounds_toArray, List.set_cons_zero, List.set_cons_succ]
        refine wpAnyH_take (i := 12) (oi := { dst := some 47, op := Op.binOp BinOp.eql 3 (Operand.tmp 46) (Operand.const (Value.int IntKind.i64 0)) 3, type := 4, pos := "sort.go:167", after := #[{ on := 11, ground := Ground.data }, { on := 4, ground := Ground.guard }, { on := 14, ground := Ground.gcOnly Departure.lateStores }], guard := some (4, true) }) (v := undef) rfl (by kernel_rfl) (by kernel_rfl) (by kernel_rfl) (fun _ _ _ h => h) (Or.inr ⟨by rfl, rfl⟩) (by assumption) ?_
        try simp only [Act.put, List.setIfInBounds_toArray, List.set_cons_zero, List.set_cons_succ]
        refine wpAnyH_take (i := 13) (oi := { dst := some 48, op := Op.pick (Operand.tmp 39) (Operand.tmp 47) (Operand.const (Value.bool false)), type := 4, pos := "sort.go:167", after := #[{ on := 4, ground := Ground.data }, { on := 12, ground := Ground.data }, { on := 14, ground := Ground.gcOnly Departure.lateStores }], guard := none }) (v := ?_) rfl (by kernel_rfl) (by kernel_rfl) (by kernel_rfl) (fun _ _ _ h => h) (Or.inl ⟨by rfl, ?_⟩) (by assumption) ?_
        rotate_left
        focus ((intro w hSw; (try dsimp only at hSw); go_simp) <;> (try with_reducible rfl))
        try simp only [Act.put, List.setIfInBounds_toArray, List.set_cons_zero, List.set_cons_succ]
        refine wpAnyH_take (i := 14) (oi := { dst := some 6, op := Op.assign (Operand.tmp 35), type := 3, pos := "sort.go:167", after := #[{ on := 0, ground := Ground.data }, { on := 11, ground := Ground.chain }, { on := 0, ground := Ground.phase }, { on := 1, ground := Ground.textOnly Departure.lateStores }, { on := 2, ground := Ground.textOnly Departure.lateStores }, { on := 3, ground := Ground.textOnly Departure.lateStores }, { on := 4, ground := Ground.textOnly Departure.lateStores }, { on := 5, ground := Ground.textOnly Departure.lateStores }, { on := 6, ground := Ground.textOnly Departure.lateStores }, { on := 7, ground := Ground.textOnly Departure.lateStores }, { on := 8, ground := Ground.textOnly Departure.lateStores }, { on := 9, ground := Ground.textOnly Departure.lateStores }, { on := 10, ground := Ground.textOnly Departure.lateStores }, { on := 11, ground := Ground.textOnly Departure.lateStoresUnsure }, { on := 12, ground := Ground.textOnly Departure.lateStores }, { on := 13, ground := Ground.textOnly Departure.lateStores }], guard := none }) (v := ?_) rfl (by kernel_rfl) (by kernel_rfl) (by kernel_rfl) (fun _ _ _ h => h) (Or.inl ⟨by rfl, ?_⟩) (by assumption) ?_
        rotate_left
        focus ((intro w hSw; (try dsimp only at hSw); go_simp) <;> (try with_reducible rfl))
        try simp only [Act.put, List.setIfInBounds_toArray, List.set_cons_zero, List.set_cons_succ]
        refine wpAnyH_take (i := 15) (oi := { dst := some 7, op := Op.assign (Operand.tmp 48), type := 4, pos := "sort.go:167", after := #[{ on := 13, ground := Ground.data }, { on := 14, ground := Ground.chain }, { on := 0, ground := Ground.phase }, { on := 1, ground := Ground.phase }, { on := 2, ground := Ground.phase }, { on := 3, ground := Ground.phase }, { on := 4, ground := Ground.phase }, { on := 5, ground := Ground.phase }, { on := 6, ground := Ground.phase }, { on := 7, ground := Ground.phase }, { on := 8, ground := Ground.phase }, { on := 9, ground := Ground.phase }, { on := 10, ground := Ground.phase }, { on := 11, ground := Ground.phase }, { on := 12, ground := Ground.phase }, { on := 13, ground := Ground.phase }, { on := 14, ground := Ground.phase }], guard := none }) (v := ?_) rfl (by kernel_rfl) (by kernel_rfl) (by kernel_rfl) (fun _ _ _ h => h) (Or.inl ⟨by rfl, ?_⟩) (by assumption) ?_
        rotate_left
        focus ((intro w hSw; (try dsimp only at hSw); go_simp) <;> (try with_reducible rfl))
        try simp only [Act.put, List.setIfInBounds_toArray, List.set_cons_zero, List.set_cons_succ]
        refine wpAnyH_done (by kernel_rfl) ?_ _
        go_wp2_with fail
        go_ret2
        exact ⟨hi, HP.out, by rw [HF.out]; rfl, HB3.out⟩
end Go.Proofs.Ytodonnagmgbliaa
