/- Zapping and dropping entries. -/
import Derived.Test.YtodonnagmgbliaaDf
namespace Go.Proofs.Ytodonnagmgbliaa
open Go.ChangeShapes Go.WideShapes Go.ChangeAt Go.RowKit

def zapB (pr pa n : Int) (x : Ar) : Bool := decide (x.pr = pr ∧ 0 < n ∧ pa ≤ x.pa ∧ wrap64 (x.pa - n) < pa)
def frB (f : Int) (x : Ar) : Bool := decide (x.fr = f)
def cutL (l : List Ar) (gone : Ar → Bool) : List Ar := if checkV l = true then l.filter (fun x => !gone x) else l
theorem cutL_len (l : List Ar) (gone : Ar → Bool) : (cutL l gone).length ≤ l.length := by
  unfold cutL
  split
  · exact List.length_filter_le _ _
  · exact Nat.le_refl _
set_option maxHeartbeats 1000000 in
theorem zap1_any (pr pa n : Int) (x : Ar) (b1 b2 b3 : Nat) (W : World) (h1 : W.cell? ⟨b1, 0, none⟩ = some (.int .i64 pr)) (h2 : W.cell? ⟨b2, 0, none⟩ = some (.int .i64 n)) (h3 : W.cell? ⟨b3, 0, none⟩ = some (.int .i64 pa)) (hb1 : b1 < W.heap.size) (hb2 : b2 < W.heap.size) (hb3 : b3 < W.heap.size) :
    Calls Try.prog 40 #[arVal x, .pointer (some ⟨b1, 0, none⟩), .pointer (some ⟨b2, 0, none⟩), .pointer (some ⟨b3, 0, none⟩)] W (RetW (.bool (zapB pr pa n x)) W) := by
  unfold arVal
  have HR : Hid (zapB pr pa n x = decide (x.pr = pr ∧ 0 < n ∧ pa ≤ x.pa ∧ wrap64 (x.pa - n) < pa)) := rfl
  generalize zapB pr pa n x = r at *
  obtain ⟨s, c, f, p, q⟩ := x
  simp only at *
  have e1 : (W.alloc (Obj.cells #[Value.int IntKind.i64 s, Value.int IntKind.i64 c, Value.int IntKind.i64 f, Value.bool p, Value.bool q] 30)).cell? ⟨b1, 0, none⟩ = some (.int .i64 pr) := by rw [← h1]; exact World.cell?_alloc_lt _ _ _ hb1
  have e2 : (W.alloc (Obj.cells #[Value.int IntKind.i64 s, Value.int IntKind.i64 c, Value.int IntKind.i64 f, Value.bool p, Value.bool q] 30)).cell? ⟨b2, 0, none⟩ = some (.int .i64 n) := by rw [← h2]; exact World.cell?_alloc_lt _ _ _ hb2
  have e3 : (W.alloc (Obj.cells #[Value.int IntKind.i64 s, Value.int IntKind.i64 c, Value.int IntKind.i64 f, Value.bool p, Value.bool q] 30)).cell? ⟨b3, 0, none⟩ = some (.int .i64 pa) := by rw [← h3]; exact World.cell?_alloc_lt _ _ _ hb3
  clear h1 h2 h3
  by_cases hs : s = pr
  · by_cases hn : 0 < n
    · by_cases hp : pa ≤ c
      · have hv : decide (s = pr ∧ 0 < n ∧ pa ≤ c ∧ wrap64 (c - n) < pa) = decide (wrap64 (c - n) < pa) := by simp [hs, hn, hp]
        rw [hv] at HR
        clear hv
        subst hs
        go_enter Try.func40, Try.ntmps40
        go_wp2_with fail
        go_ret
        exact RetW.mk (by rw [HR.out]; first | done | rfl) ((Below.refl _ W).alloc (Nat.le_refl _) _)
      · have hv : decide (s = pr ∧ 0 < n ∧ pa ≤ c ∧ wrap64 (c - n) < pa) = false := decide_eq_false (by omega)
        rw [hv] at HR
        clear hv
        subst hs
        have hp2 : c < pa := by omega
        go_enter Try.func40, Try.ntmps40
        go_wp2_with fail
        go_ret
        exact RetW.mk (by rw [HR.out]; first | done | rfl) ((Below.refl _ W).alloc (Nat.le_refl _) _)
    · have hv : decide (s = pr ∧ 0 < n ∧ pa ≤ c ∧ wrap64 (c - n) < pa) = false := decide_eq_false (by omega)
      rw [hv] at HR
      clear hv
      subst hs
      have hn2 : n ≤ 0 := by omega
      go_enter Try.func40, Try.ntmps40
      go_wp2_with fail
      go_ret
      exact RetW.mk (by rw [HR.out]; first | done | rfl) ((Below.refl _ W).alloc (Nat.le_refl _) _)
  · have hv : decide (s = pr ∧ 0 < n ∧ pa ≤ c ∧ wrap64 (c - n) < pa) = false := decide_eq_false (by omega)
    rw [hv] at HR
    clear hv
    go_enter Try.func40, Try.ntmps40
    go_wp2_with fail
    go_ret
    exact RetW.mk (by rw [HR.out]; first | done | rfl) ((Below.refl _ W).alloc (Nat.le_refl _) _)
theorem drop1_any (fr : Int) (x : Ar) (b1 : Nat) (W : World) (h1 : W.cell? ⟨b1, 0, none⟩ = some (.int .i64 fr)) (hb1 : b1 < W.heap.size) :
    Calls Try.prog 41 #[arVal x, .pointer (some ⟨b1, 0, none⟩)] W (RetW (.bool (frB fr x)) W) := by
  unfold arVal
  have HR : Hid (frB fr x = decide (x.fr = fr)) := rfl
  generalize frB fr x = r at *
  obtain ⟨s, c, f, p, q⟩ := x
  simp only at *
  have e1 : (W.alloc (Obj.cells #[Value.int IntKind.i64 s, Value.int IntKind.i64 c, Value.int IntKind.i64 f, Value.bool p, Value.bool q] 30)).cell? ⟨b1, 0, none⟩ = some (.int .i64 fr) := by rw [← h1]; exact World.cell?_alloc_lt _ _ _ hb1
  clear h1
  by_cases hf : f = fr
  · rw [decide_eq_true hf] at HR
    subst hf
    go_enter Try.func41, Try.ntmps41
    go_wp2_with fail
    go_ret
    exact RetW.mk (by rw [HR.out]; first | done | rfl | simp) ((Below.refl _ W).alloc (Nat.le_refl _) _)
  · rw [decide_eq_false hf] at HR
    have hf2 : (f == fr) = false := by simpa using hf
    go_enter Try.func41, Try.ntmps41
    go_wp2_with fail
    go_ret
    exact RetW.mk (by rw [HR.out]; first | done | rfl | simp [hf2] | simp [hf]) ((Below.refl _ W).alloc (Nat.le_refl _) _)

set_option maxHeartbeats 2000000 in
theorem without_any (fn : Nat) (lb : Array Value) (gone : Ar → Bool) (eg : ∀ args w, (callFunc fn args).run Try.prog w = .ok (.enter fn args) w) (B : Nat) (b : Option Addr) (l : List Ar) (cap : Nat) (w : World) (h : ARow B b cap l w) (hl : l.length ≤ 100) (hG : GoneAt w fn lb gone) :
    Calls Try.prog 39 #[.slice b l.length cap, .func (.func fn) #[] lb] w fun e w' => ∃ b' c', e = .returned (.slice b' (cutL l gone).length c') ∧ ARow w.heap.size b' c' (cutL l gone) w' ∧ Below w.heap.size w w' := by
  have HCK : Hid (∀ W, Below w.heap.size w W → Calls Try.prog 16 #[.slice b l.length cap] W (RetW (.bool (checkV l)) W)) := fun W hb => check_any B b l cap W (h.below hb) hl
  have HCL := Lib.hid (clone_any B b l cap w h (by omega))
  have HD : Hid (∀ b' c' W, W.ownsRow w.heap.size 30 5 (.slice b' l.length c') l.length (flat l) → Below w.heap.size w W → Calls Try.prog 47 #[.slice b' l.length c', .func (.func fn) #[] lb] W fun e w' => ∃ b'' c'', e = .returned (.slice b'' (l.filter (fun x => !gone x)).length c'') ∧ ARow w.heap.size b'' c'' (l.filter (fun x => !gone x)) w' ∧ Below w.heap.size w w') :=
    fun b' c' W ho hb => deleteF_any w fn lb gone eg hG b' l c' W ho hl hb
  have HV1 : Hid (checkV l = true → cutL l gone = l.filter (fun x => !gone x)) := fun hc => by unfold cutL; rw [if_pos hc]
  have HV2 : Hid (checkV l = false → cutL l gone = l) := fun hc => by unfold cutL; rw [hc]; rfl
  clear h hG
  go_enter Try.func39, Try.ntmps39
  go_wp2_with fail
  refine HCL.out.mono ?_; rintro e w1 ⟨v1, rfl, ho, hb⟩
  obtain ⟨b2, c2, rfl, _, hr⟩ := ARow.ofOwn ho
  have HO := Lib.hid ho
  have HB := Lib.hid hb
  clear ho hb hr HCL
  go_wp2_with fail
  refine (HCK.out _ HB.out).mono ?_; rintro e w2 ⟨rfl, hb⟩
  replace HO := Lib.hid (ownsRow_below HO.out hb)
  replace HB := Lib.hid (HB.out.trans (hb.mono HB.out.size))
  clear hb HCK
  cases hcv : checkV l with
  | false =>
    have HV := Lib.hid (HV2.out hcv)
    clear hcv HV1 HV2 HD
    go_wp2_with fail
    go_ret
    exact ⟨b2, c2, by rw [HV.out]; rfl, by rw [HV.out]; exact ARow.ofOwn' HO.out, HB.out⟩
  | true =>
    have HV := Lib.hid (HV1.out hcv)
    have HD2 := Lib.hid (HD.out _ _ _ HO.out HB.out)
    clear hcv HV1 HV2 HD
    go_wp2_with fail
    refine HD2.out.mono ?_; rintro e w3 ⟨b3, c3, rfl, hr3, hb3⟩
    have HR3 := Lib.hid hr3
    clear hr3 HD2
    go_wp2_with fail
    go_ret
    exact ⟨b3, c3, by rw [HV.out]; rfl, by rw [HV.out]; exact HR3.out, hb3⟩

set_option maxHeartbeats 2000000 in
theorem zap_any (pr pa n : Int) (B : Nat) (b : Option Addr) (l : List Ar) (cap : Nat) (w : World) (h : ARow B b cap l w) (hl : l.length ≤ 100) :
    Calls Try.prog 19 #[.slice b l.length cap, .int .i64 pr, .int .i64 pa, .int .i64 n] w fun e w' => ∃ b' c', e = .returned (.slice b' (cutL l (zapB pr pa n)).length c') ∧ ARow w.heap.size b' c' (cutL l (zapB pr pa n)) w' ∧ Below w.heap.size w w' := by
  obtain ⟨w1, hw1⟩ : ∃ w1, w1 = ((w.alloc (.cells #[.int .i64 pr] 3)).alloc (.cells #[.int .i64 pa] 3)).alloc (.cells #[.int .i64 n] 3) := ⟨_, rfl⟩
  have hb : Below w.heap.size w w1 := by rw [hw1]; exact (((Below.refl _ w).alloc (Nat.le_refl _) _).alloc (by simp) _).alloc (by simp; omega) _
  have hsz : w1.heap.size = w.heap.size + 3 := by rw [hw1]; simp
  have s1 : (w.alloc (.cells #[.int .i64 pr] 3)).heap.size = w.heap.size + 1 := by simp
  have s2 : ((w.alloc (.cells #[.int .i64 pr] 3)).alloc (.cells #[.int .i64 pa] 3)).heap.size = w.heap.size + 2 := by simp
  have c1 : w1.cell? ⟨w.heap.size, 0, none⟩ = some (.int .i64 pr) := by
    rw [hw1, World.cell?_alloc_lt _ _ _ (by show w.heap.size < _; omega), World.cell?_alloc_lt _ _ _ (by show w.heap.size < _; omega)]
    exact World.cell?_alloc_mark w #[.int .i64 pr] 3 (0, 0) 0
  have c2 : w1.cell? ⟨w.heap.size + 1, 0, none⟩ = some (.int .i64 pa) := by
    rw [hw1, World.cell?_alloc_lt _ _ _ (by show w.heap.size + 1 < _; omega), ← s1]
    exact World.cell?_alloc_mark _ #[.int .i64 pa] 3 (0, 0) 0
  have c3 : w1.cell? ⟨w.heap.size + 2, 0, none⟩ = some (.int .i64 n) := by
    rw [hw1, ← s2]
    exact World.cell?_alloc_mark _ #[.int .i64 n] 3 (0, 0) 0
  have hg : GoneAt w1 40 #[.pointer (some ⟨w.heap.size, 0, none⟩), .pointer (some ⟨w.heap.size + 2, 0, none⟩), .pointer (some ⟨w.heap.size + 1, 0, none⟩)] (zapB pr pa n) := fun W x hb =>
    zap1_any pr pa n x _ _ _ W ((hb.cell (p := ⟨w.heap.size, 0, none⟩) (by show w.heap.size < _; omega)).trans c1) ((hb.cell (p := ⟨w.heap.size + 2, 0, none⟩) (by show w.heap.size + 2 < _; omega)).trans c3) ((hb.cell (p := ⟨w.heap.size + 1, 0, none⟩) (by show w.heap.size + 1 < _; omega)).trans c2) (by have := hb.size; omega) (by have := hb.size; omega) (by have := hb.size; omega)
  have HW := Lib.hid (without_any 40 _ (zapB pr pa n) (enters_of Try.func40 (by kernel_rfl) rfl) B b l cap w1 (h.below hb) hl hg)
  have HB := Lib.hid hb
  clear hg c1 c2 c3 hb h s1 s2
  go_enter Try.func19, Try.ntmps19
  go_wp2_with fail
  rw [← hw1]
  refine HW.out.mono ?_; rintro e w3 ⟨b3, c3, rfl, hr3, hb3⟩
  have HR3 := Lib.hid hr3
  have HB3 := Lib.hid (HB.out.trans (hb3.mono HB.out.size))
  clear hr3 hb3 HW
  go_wp2_with fail
  go_ret
  exact ⟨b3, c3, rfl, HR3.out.mono HB.out.size, HB3.out⟩
set_option maxHeartbeats 2000000 in
theorem drop_any (fr : Int) (B : Nat) (b : Option Addr) (l : List Ar) (cap : Nat) (w : World) (h : ARow B b cap l w) (hl : l.length ≤ 100) :
    Calls Try.prog 23 #[.slice b l.length cap, .int .i64 fr] w fun e w' => ∃ b' c', e = .returned (.slice b' (cutL l (frB fr)).length c') ∧ ARow w.heap.size b' c' (cutL l (frB fr)) w' ∧ Below w.heap.size w w' := by
  obtain ⟨w1, hw1⟩ : ∃ w1, w1 = w.alloc (.cells #[.int .i64 fr] 3) := ⟨_, rfl⟩
  have hb : Below w.heap.size w w1 := by rw [hw1]; exact (Below.refl _ w).alloc (Nat.le_refl _) _
  have hsz : w1.heap.size = w.heap.size + 1 := by rw [hw1]; simp
  have c1 : w1.cell? ⟨w.heap.size, 0, none⟩ = some (.int .i64 fr) := by rw [hw1]; simp
  have hg : GoneAt w1 41 #[.pointer (some ⟨w.heap.size, 0, none⟩)] (frB fr) := fun W x hb =>
    drop1_any fr x _ W ((hb.cell (p := ⟨w.heap.size, 0, none⟩) (by show w.heap.size < _; omega)).trans c1) (by have := hb.size; omega)
  have HW := Lib.hid (without_any 41 _ (frB fr) (enters_of Try.func41 (by kernel_rfl) rfl) B b l cap w1 (h.below hb) hl hg)
  have HB := Lib.hid hb
  clear hg c1 hb h
  go_enter Try.func23, Try.ntmps23
  go_wp2_with fail
  rw [← hw1]
  refine HW.out.mono ?_; rintro e w3 ⟨b3, c3, rfl, hr3, hb3⟩
  have HR3 := Lib.hid hr3
  have HB3 := Lib.hid (HB.out.trans (hb3.mono HB.out.size))
  clear hr3 hb3 HW
  go_wp2_with fail
  go_ret
  exact ⟨b3, c3, rfl, HR3.out.mono HB.out.size, HB3.out⟩
end Go.Proofs.Ytodonnagmgbliaa
