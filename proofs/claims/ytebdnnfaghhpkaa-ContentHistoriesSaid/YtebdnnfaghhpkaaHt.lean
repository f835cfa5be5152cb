/- A history made of numbers. -/
import Derived.Test.YtebdnnfaghhpkaaHr
import Derived.Test.YtebdnnfaghhpkaaHp
namespace Go.Proofs.Ytebdnnfaghhpkaa
open Go.ChangeShapes Go.WideShapes Go.ChangeAt Go.RowKit

/-- what holds in the loop that makes a history: block w.heap.size is the answer's, w.heap.size + 2 the history's -/
structure HInv (w0 w : World) (t : Nat) (a : Option Addr) (len cap : Nat) (b : Option Addr) (c : Nat) (l : List ByteArray) (W : World) : Prop where
  tp : TP w0 t a len cap W
  tk : Tock t w W
  tl : t < w.heap.size
  hlt : w.heap.size + 2 < W.heap.size
  c0 : W.cell? ⟨w.heap.size + 2, 0, none⟩ = some (.slice b l.length c)
  c1 : W.cell? ⟨w.heap.size + 2, 1, none⟩ = some (.int .i64 0)
  f0 : W.frozen? ⟨w.heap.size + 2, 0, none⟩ = false
  f1 : W.frozen? ⟨w.heap.size + 2, 1, none⟩ = false
  r0 : ∃ u, W.cell? ⟨w.heap.size, 0, none⟩ = some u
  r1 : ∃ u, W.cell? ⟨w.heap.size, 1, none⟩ = some u
  e0 : W.frozen? ⟨w.heap.size, 0, none⟩ = false
  e1 : W.frozen? ⟨w.heap.size, 1, none⟩ = false
  row : StrRow (t + 1) b c l W
  ne : ∀ g, b = some ⟨g, 0, none⟩ → g ≠ w.heap.size + 2 ∧ g ≠ w.heap.size
  sz : ∀ x, x ∈ l → x.size ≤ 8
theorem HInv.tock {w0 w : World} {t : Nat} {a : Option Addr} {len cap : Nat} {b : Option Addr} {c : Nat} {l : List ByteArray} {W W' : World} (h : HInv w0 w t a len cap b c l W) (hk : Tock t W W') (tp : TP w0 t a len cap W') : HInv w0 w t a len cap b c l W' := by
  have h1 := h.tl
  have h2 := h.hlt
  exact { tp := tp, tk := h.tk.trans hk, tl := h1, hlt := Nat.lt_of_lt_of_le h2 hk.size,
          c0 := by rw [hk.cell (by omega) (by omega)]; exact h.c0
          c1 := by rw [hk.cell (by omega) (by omega)]; exact h.c1
          f0 := by rw [hk.frozen (by omega) (by omega)]; exact h.f0
          f1 := by rw [hk.frozen (by omega) (by omega)]; exact h.f1
          r0 := by rw [hk.cell (by omega) (by omega)]; exact h.r0
          r1 := by rw [hk.cell (by omega) (by omega)]; exact h.r1
          e0 := by rw [hk.frozen (by omega) (by omega)]; exact h.e0
          e1 := by rw [hk.frozen (by omega) (by omega)]; exact h.e1
          row := h.row.tock (Nat.lt_succ_self t) hk, ne := h.ne, sz := h.sz }
theorem HInv.below {w0 w : World} {t : Nat} {a : Option Addr} {len cap : Nat} {b : Option Addr} {c : Nat} {l : List ByteArray} {W W' : World} (h : HInv w0 w t a len cap b c l W) (hb : Below W.heap.size W W') : HInv w0 w t a len cap b c l W' :=
  h.tock (Tock.ofBelow hb (Nat.le_refl _)) (h.tp.below hb h.tp.hi)
/-- a new history is laid into the variable -/
theorem HInv.put {w0 w : World} {t : Nat} {a : Option Addr} {len cap : Nat} {b b' : Option Addr} {c c' : Nat} {l l' : List ByteArray} {W W' : World} (h : HInv w0 w t a len cap b c l W) (hb : Below W.heap.size W W') (hr : StrRow W.heap.size b' c' l' W') (hs : ∀ x, x ∈ l' → x.size ≤ 8) :
    HInv w0 w t a len cap b' c' l' ((W'.setCell ⟨w.heap.size + 2, 0, none⟩ (.slice b' l'.length c')).setCell ⟨w.heap.size + 2, 1, none⟩ (.int .i64 0)) := by
  have k := h.below hb
  have h1 := k.tl
  have h2 := h.hlt
  have hn : ∀ g, b' = some ⟨g, 0, none⟩ → g ≠ w.heap.size + 2 ∧ g ≠ w.heap.size := by
    intro g hg
    rcases hr with ⟨hr, _⟩ | ⟨g2, hr, hr2, _⟩
    · rw [hr] at hg; cases hg
    · rw [hr] at hg; cases hg; omega
  have hbw : Below w.heap.size W' ((W'.setCell ⟨w.heap.size + 2, 0, none⟩ (.slice b' l'.length c')).setCell ⟨w.heap.size + 2, 1, none⟩ (.int .i64 0)) := ((Below.refl _ W').setCell (by show _ ≤ w.heap.size + 2; omega) _).setCell (by show _ ≤ w.heap.size + 2; omega) _
  have hbt : Below (t + 1) W' ((W'.setCell ⟨w.heap.size + 2, 0, none⟩ (.slice b' l'.length c')).setCell ⟨w.heap.size + 2, 1, none⟩ (.int .i64 0)) := hbw.mono (by omega)
  have hc1 : (W'.setCell ⟨w.heap.size + 2, 0, none⟩ (.slice b' l'.length c')).cell? ⟨w.heap.size + 2, 1, none⟩ = some (.int .i64 0) := by
    rw [World.cell?_setCell_other _ _ _ _ (by simp)]; exact k.c1
  have ho : ∀ o, ((W'.setCell ⟨w.heap.size + 2, 0, none⟩ (.slice b' l'.length c')).setCell ⟨w.heap.size + 2, 1, none⟩ (.int .i64 0)).cell? ⟨w.heap.size, o, none⟩ = W'.cell? ⟨w.heap.size, o, none⟩ := by
    intro o
    rw [World.cell?_setCell_other _ _ _ _ (by simp), World.cell?_setCell_other _ _ _ _ (by simp)]
  exact { tp := k.tp.below hbt (Nat.lt_succ_self t)
          tk := ⟨k.tk.os, k.tk.tape, k.tk.output, by simpa [World.setCell] using k.tk.size, fun i hi hl => (hbw.block i hl).trans (k.tk.block i hi hl)⟩
          tl := h1, hlt := by simpa [World.setCell] using k.hlt
          c0 := by rw [World.cell?_setCell_other _ _ _ _ (by simp)]; exact World.cell?_setCell_same _ _ _ k.c0
          c1 := World.cell?_setCell_same _ _ _ hc1
          f0 := by rw [World.frozen?_setCell, World.frozen?_setCell]; exact k.f0
          f1 := by rw [World.frozen?_setCell, World.frozen?_setCell]; exact k.f1
          r0 := by rw [ho]; exact k.r0
          r1 := by rw [ho]; exact k.r1
          e0 := by rw [World.frozen?_setCell, World.frozen?_setCell]; exact k.e0
          e1 := by rw [World.frozen?_setCell, World.frozen?_setCell]; exact k.e1
          row := (StrRow.put2 hr (fun g hg => (hn g hg).1) 0 1).mono (by omega)
          ne := hn, sz := hs }

theorem HInv.done {w0 w : World} {t : Nat} {a : Option Addr} {len cap : Nat} {b : Option Addr} {c : Nat} {l : List ByteArray} {W : World} (h : HInv w0 w t a len cap b c l W) (v : Value) (q : Int) :
    ((W.setCell ⟨w.heap.size, 0, none⟩ v).setCell ⟨w.heap.size, 1, none⟩ (.int .i64 q)).cell? ⟨w.heap.size, 0, none⟩ = some v ∧
    ((W.setCell ⟨w.heap.size, 0, none⟩ v).setCell ⟨w.heap.size, 1, none⟩ (.int .i64 q)).cell? ⟨w.heap.size, 1, none⟩ = some (.int .i64 q) ∧
    StrRow (t + 1) b c l ((W.setCell ⟨w.heap.size, 0, none⟩ v).setCell ⟨w.heap.size, 1, none⟩ (.int .i64 q)) ∧
    Tock t w ((W.setCell ⟨w.heap.size, 0, none⟩ v).setCell ⟨w.heap.size, 1, none⟩ (.int .i64 q)) ∧
    TP w0 t a len cap ((W.setCell ⟨w.heap.size, 0, none⟩ v).setCell ⟨w.heap.size, 1, none⟩ (.int .i64 q)) := by
  obtain ⟨u0, r0⟩ := h.r0
  obtain ⟨u1, r1⟩ := h.r1
  have r1' : (W.setCell ⟨w.heap.size, 0, none⟩ v).cell? ⟨w.heap.size, 1, none⟩ = some u1 := by
    rw [World.cell?_setCell_other _ _ _ _ (by simp), r1]
  have h1 := h.tl
  have hbw : Below w.heap.size W ((W.setCell ⟨w.heap.size, 0, none⟩ v).setCell ⟨w.heap.size, 1, none⟩ (.int .i64 q)) := ((Below.refl _ W).setCell (by show _ ≤ w.heap.size; omega) _).setCell (by show _ ≤ w.heap.size; omega) _
  refine ⟨?_, World.cell?_setCell_same _ _ _ r1', StrRow.put2 h.row (fun g hg => (h.ne g hg).2) 0 1, ?_, h.tp.below (hbw.mono (show t + 1 ≤ w.heap.size from h1)) (Nat.lt_succ_self t)⟩
  · rw [World.cell?_setCell_other _ _ _ _ (by simp)]
    exact World.cell?_setCell_same _ _ _ r0
  · exact ⟨h.tk.os, h.tk.tape, h.tk.output, by simpa [World.setCell] using h.tk.size, fun i hi hl => (hbw.block i hl).trans (h.tk.block i hi hl)⟩
theorem three (w : World) (A B C : Obj) : (((w.alloc A).alloc B).alloc C).heap[w.heap.size]? = some A ∧ (((w.alloc A).alloc B).alloc C).heap[w.heap.size + 1]? = some B ∧ (((w.alloc A).alloc B).alloc C).heap[w.heap.size + 2]? = some C ∧ (((w.alloc A).alloc B).alloc C).heap.size = w.heap.size + 3 := by
  refine ⟨?_, ?_, ?_, ?_⟩
  · show (((w.heap.push A).push B).push C)[w.heap.size]? = some A
    simp [Array.getElem?_push]; omega
  · show (((w.heap.push A).push B).push C)[w.heap.size + 1]? = some B
    rw [Array.getElem?_push, if_neg (by simp), Array.getElem?_push, if_pos (by simp)]
  · show (((w.heap.push A).push B).push C)[w.heap.size + 2]? = some C
    rw [Array.getElem?_push, if_pos (by simp)]
  · show (((w.heap.push A).push B).push C).size = w.heap.size + 3
    simp

set_option maxHeartbeats 8000000 in
theorem history_any (w0 w : World) (t : Nat) (a : Option Addr) (len cap : Nat) (h : TP w0 t a len cap w) :
    Calls Try.prog 23 #[.pointer (some ⟨t, 0, none⟩)] w fun e w' => ∃ (b : Option Addr) (c : Nat) (l : List ByteArray) (q : Int), e = .returned (.agg #[.slice b l.length c, .int .i64 q]) ∧ StrRow (t + 1) b c l w' ∧ (∀ x, x ∈ l → x.size ≤ 8) ∧ l.length ≤ 9 ∧ 0 ≤ q ∧ q < l.length ∧ Tock t w w' ∧ TP w0 t a len cap w' := by
  have HT := Lib.hid h
  clear h
  go_enter Try.func23, Try.ntmps23
  go_wp2_with fail
  have HI : Hid (HInv w0 w t a len cap (some ⟨w.heap.size + 1, 0, none⟩) 1 [⟨#[]⟩] (((w.alloc (Obj.cells #[Value.slice none 0 0, Value.int IntKind.i64 0] 40)).alloc (Obj.cells #[Value.string { data := #[] }] 9)).alloc (Obj.cells #[Value.slice (some { block := w.heap.size + 1, off := 0 }) 1 1, Value.int IntKind.i64 0] 40))) := by
    have hb : Below w.heap.size w (((w.alloc (Obj.cells #[Value.slice none 0 0, Value.int IntKind.i64 0] 40)).alloc (Obj.cells #[Value.string { data := #[] }] 9)).alloc (Obj.cells #[Value.slice (some { block := w.heap.size + 1, off := 0 }) 1 1, Value.int IntKind.i64 0] 40)) := (((Below.refl _ w).alloc (Nat.le_refl _) _).alloc (by simp) _).alloc (by simp; omega) _
    have ht := HT.out.hi
    obtain ⟨t0, t1, t2, t3⟩ := three w (Obj.cells #[Value.slice none 0 0, Value.int IntKind.i64 0] 40) (Obj.cells #[Value.string { data := #[] }] 9) (Obj.cells #[Value.slice (some { block := w.heap.size + 1, off := 0 }) 1 1, Value.int IntKind.i64 0] 40)
    generalize (((w.alloc (Obj.cells #[Value.slice none 0 0, Value.int IntKind.i64 0] 40)).alloc (Obj.cells #[Value.string { data := #[] }] 9)).alloc (Obj.cells #[Value.slice (some { block := w.heap.size + 1, off := 0 }) 1 1, Value.int IntKind.i64 0] 40)) = W at *
    refine ⟨HT.out.below hb ht, Tock.ofBelow hb (Nat.le_refl _), ht, by omega, by simp [World.cell?, t2], by simp [World.cell?, t2], by simp [World.frozen?, t2], by simp [World.frozen?, t2], ⟨.slice none 0 0, by simp [World.cell?, t0]⟩, ⟨.int .i64 0, by simp [World.cell?, t0]⟩, by simp [World.frozen?, t0], by simp [World.frozen?, t0], ?_, ?_, ?_⟩
    · refine Or.inr ⟨w.heap.size + 1, rfl, by omega, by omega, by simp, by unfold maxLen; omega, fun j hj => ?_⟩
      have : j = 0 := by simpa using hj
      subst this
      simp [List.getD, World.cell?, t1]
    · intro g hg; cases hg; omega
    · intro x hx; simp at hx; subst hx; decide
  generalize (((w.alloc (Obj.cells #[Value.slice none 0 0, Value.int IntKind.i64 0] 40)).alloc (Obj.cells #[Value.string { data := #[] }] 9)).alloc (Obj.cells #[Value.slice (some { block := w.heap.size + 1, off := 0 }) 1 1, Value.int IntKind.i64 0] 40)) = W0 at *
  clear HT
  refine (next_tp 8 _ _ _ _ _ _ (by omega) (by omega) HI.out.tp).mono ?_
  rintro e w1 ⟨n0, na, nb, rfl, hk, tpn⟩
  replace HI := Lib.hid (HI.out.tock hk.tock tpn)
  clear hk tpn
  go_wp2_with fail
  rw [show w.heap.size + 1 + 1 = w.heap.size + 2 from rfl]
  go_loopw [4, 5] (fun v4 v5 wr => ∃ (s : ByteArray) (n : Nat) (b : Option Addr) (c : Nat) (l : List ByteArray), v4 = .string s ∧ s.size ≤ 8 ∧ v5 = .int .i64 n ∧ l.length + n ≤ 8 ∧ 1 ≤ l.length ∧ Hid (HInv w0 w t a len cap b c l wr)) (fun _ v5 _ => (intOf v5).toNat)
  case atStart =>
    obtain ⟨n, rfl⟩ := Int.eq_ofNat_of_zero_le na
    exact ⟨⟨#[]⟩, n, _, _, _, rfl, by decide, rfl, by simp; omega, by simp, HI⟩
  case round =>
    clear HI
    obtain ⟨s, n, b, c, l, rfl, hs, rfl, hn, hl, HI⟩ := hrel
    by_cases hlt : 0 < n
    · have hlt' : (0 : Int) < (n : Int) := by omega
      go_wp2_with fail
      refine (next_tp 3 _ _ _ _ _ _ (by omega) (by omega) HI.out.tp).mono ?_
      rintro e w2 ⟨x, xa, xb, rfl, hk, tpn⟩
      replace HI := Lib.hid (HI.out.tock hk.tock tpn)
      clear hk tpn
      have hx : x = 0 ∨ x = 1 ∨ x = 2 := by omega
      clear xa xb
      rcases hx with rfl | rfl | rfl
      · go_wp2_with fail
        refine (next_tp 6 _ _ _ _ _ _ (by omega) (by omega) HI.out.tp).mono ?_
        rintro e w3 ⟨o, oa, ob, rfl, hk, tpn⟩
        obtain ⟨o, rfl⟩ := Int.eq_ofNat_of_zero_le oa
        replace HI := Lib.hid (HI.out.tock hk.tock tpn)
        clear hk tpn
        go_wp2_with fail
        refine (next_tp 4 _ _ _ _ _ _ (by omega) (by omega) HI.out.tp).mono ?_
        rintro e w3 ⟨m, ma, mb, rfl, hk, tpn⟩
        obtain ⟨m, rfl⟩ := Int.eq_ofNat_of_zero_le ma
        replace HI := Lib.hid (HI.out.tock hk.tock tpn)
        clear hk tpn
        go_wp2_with fail
        refine (bytes_any m _ _ _ _ _ _ (by omega) HI.out.tp).mono ?_
        rintro e w4 ⟨bb, hbb, rfl, hk, tpn⟩
        replace HI := Lib.hid (HI.out.tock hk tpn)
        clear hk tpn
        have hbl : bb.size ≤ 3 := by omega
        clear hbb
        have hs2 := writeV_size8 (s := s) (b := bb) (o := o) hs (by omega) hbl
        have hcall := fun w => writeR_any s (o : Int) bb w (by unfold maxLen; omega) (by unfold maxLen; omega)
        generalize (writeV s (o : Int) bb).1 = s2 at *
        generalize (writeV s (o : Int) bb).2 = er at *
        have HC := Lib.hid hcall
        clear hcall
        go_wp2_with fail
        refine (HC.out _).mono ?_; rintro e w5 ⟨rfl, hb⟩
        replace HI := Lib.hid (HI.out.below hb)
        clear hb HC
        have c0 := HI.out.c0; have c1 := HI.out.c1
        go_wp2_with fail
        refine (changeR_any (t + 1) b l c 0 s2 _ HI.out.row (by omega)).mono ?_; rintro e w9 ⟨b', c', rfl, hr, hb⟩
        have HB := Lib.hid (HI.out.below hb)
        have HP := HI.out.put hb hr (by
          intro x hx
          rcases List.mem_append.1 hx with hx | hx
          · exact HI.out.sz x hx
          · rw [List.mem_singleton.1 hx]; exact hs2)
        rw [show (l ++ [s2]).length = l.length + 1 from by simp] at HP
        replace HP := Lib.hid HP
        have q0 := HB.out.c0; have q1 := HB.out.c1; have q2 := HB.out.f0; have q3 := HB.out.f1
        clear hb hr HI c0 c1
        go_wp2_with fail
        generalize ((w9.setCell { block := w.heap.size + 2, off := 0 } (Value.slice b' (l.length + 1) c')).setCell { block := w.heap.size + 2, off := 1 } (Value.int IntKind.i64 0)) = w10 at *
        go_roundw
        case rel =>
          obtain ⟨n, rfl⟩ := Nat.exists_eq_add_of_lt hlt
          exact ⟨s2, n, b', c', _, rfl, hs2, by go_num, by simp; omega, by simp, HP⟩
        case measure => simp [intOf]; omega
      · go_wp2_with fail
        refine (next_tp 8 _ _ _ _ _ _ (by omega) (by omega) HI.out.tp).mono ?_
        rintro e w3 ⟨m, ma, mb, rfl, hk, tpn⟩
        obtain ⟨m, rfl⟩ := Int.eq_ofNat_of_zero_le ma
        replace HI := Lib.hid (HI.out.tock hk.tock tpn)
        clear hk tpn
        have hs2 := truncV_size8 (s := s) (n := m) hs (by omega)
        have hcall := fun w => truncR_any s (m : Int) w (by unfold maxLen; omega)
        generalize (truncV s (m : Int)).1 = s2 at *
        generalize (truncV s (m : Int)).2 = er at *
        have HC := Lib.hid hcall
        clear hcall
        go_wp2_with fail
        refine (HC.out _).mono ?_; rintro e w5 ⟨rfl, hb⟩
        replace HI := Lib.hid (HI.out.below hb)
        clear hb HC
        have c0 := HI.out.c0; have c1 := HI.out.c1
        go_wp2_with fail
        refine (changeR_any (t + 1) b l c 0 s2 _ HI.out.row (by omega)).mono ?_; rintro e w9 ⟨b', c', rfl, hr, hb⟩
        have HB := Lib.hid (HI.out.below hb)
        have HP := HI.out.put hb hr (by
          intro x hx
          rcases List.mem_append.1 hx with hx | hx
          · exact HI.out.sz x hx
          · rw [List.mem_singleton.1 hx]; exact hs2)
        rw [show (l ++ [s2]).length = l.length + 1 from by simp] at HP
        replace HP := Lib.hid HP
        have q0 := HB.out.c0; have q1 := HB.out.c1; have q2 := HB.out.f0; have q3 := HB.out.f1
        clear hb hr HI c0 c1
        go_wp2_with fail
        generalize ((w9.setCell { block := w.heap.size + 2, off := 0 } (Value.slice b' (l.length + 1) c')).setCell { block := w.heap.size + 2, off := 1 } (Value.int IntKind.i64 0)) = w10 at *
        go_roundw
        case rel =>
          obtain ⟨n, rfl⟩ := Nat.exists_eq_add_of_lt hlt
          exact ⟨s2, n, b', c', _, rfl, hs2, by go_num, by simp; omega, by simp, HP⟩
        case measure => simp [intOf]; omega
      · go_wp2_with fail
        refine (next_tp 6 _ _ _ _ _ _ (by omega) (by omega) HI.out.tp).mono ?_
        rintro e w3 ⟨o, oa, ob, rfl, hk, tpn⟩
        obtain ⟨o, rfl⟩ := Int.eq_ofNat_of_zero_le oa
        replace HI := Lib.hid (HI.out.tock hk.tock tpn)
        clear hk tpn
        go_wp2_with fail
        refine (next_tp 4 _ _ _ _ _ _ (by omega) (by omega) HI.out.tp).mono ?_
        rintro e w3 ⟨m, ma, mb, rfl, hk, tpn⟩
        obtain ⟨m, rfl⟩ := Int.eq_ofNat_of_zero_le ma
        replace HI := Lib.hid (HI.out.tock hk.tock tpn)
        clear hk tpn
        have hs2 := punchV_size8 (s := s) (o := o) (n := m) hs
        have hcall := fun w => punchR_any s (o : Int) (m : Int) w (by unfold maxLen; omega) (by omega)
        generalize (punchV s (o : Int) (m : Int)).1 = s2 at *
        generalize (punchV s (o : Int) (m : Int)).2 = er at *
        have HC := Lib.hid hcall
        clear hcall
        go_wp2_with fail
        refine (HC.out _).mono ?_; rintro e w5 ⟨rfl, hb⟩
        replace HI := Lib.hid (HI.out.below hb)
        clear hb HC
        have c0 := HI.out.c0; have c1 := HI.out.c1
        go_wp2_with fail
        refine (changeR_any (t + 1) b l c 0 s2 _ HI.out.row (by omega)).mono ?_; rintro e w9 ⟨b', c', rfl, hr, hb⟩
        have HB := Lib.hid (HI.out.below hb)
        have HP := HI.out.put hb hr (by
          intro x hx
          rcases List.mem_append.1 hx with hx | hx
          · exact HI.out.sz x hx
          · rw [List.mem_singleton.1 hx]; exact hs2)
        rw [show (l ++ [s2]).length = l.length + 1 from by simp] at HP
        replace HP := Lib.hid HP
        have q0 := HB.out.c0; have q1 := HB.out.c1; have q2 := HB.out.f0; have q3 := HB.out.f1
        clear hb hr HI c0 c1
        go_wp2_with fail
        generalize ((w9.setCell { block := w.heap.size + 2, off := 0 } (Value.slice b' (l.length + 1) c')).setCell { block := w.heap.size + 2, off := 1 } (Value.int IntKind.i64 0)) = w10 at *
        go_roundw
        case rel =>
          obtain ⟨n, rfl⟩ := Nat.exists_eq_add_of_lt hlt
          exact ⟨s2, n, b', c', _, rfl, hs2, by go_num, by simp; omega, by simp, HP⟩
        case measure => simp [intOf]; omega
    · obtain rfl : n = 0 := by omega
      go_wp2_with fail
      have c0 := HI.out.c0; have c1 := HI.out.c1
      have hlen9 : l.length ≤ 8 := by omega
      have hwr : IntKind.i64.wrap ((l.length : Int) + 1) = (l.length : Int) + 1 := IntWalk.i64_in _ (by omega)
      replace HI := Lib.hid (HI.out.below (Below.refl _ _).drew)
      go_region_held3 (fun w' => w'.cell? ⟨w.heap.size + 2, 0, none⟩ = some (.slice b l.length c) ∧ w'.cell? ⟨w.heap.size + 2, 1, none⟩ = some (.int .i64 0)) (go_keep) (first | (go_at_call 10; refine (next_tp ((l.length : Int) + 1) _ _ _ _ _ _ (by omega) (by omega) HI.out.tp).mono ?_; rintro e w11 ⟨m, ma, mb, rfl, hk, tpn⟩; have HI2 := Lib.hid (HI.out.tock hk.tock tpn); have k0 := HI2.out.c0; have k1 := HI2.out.c1) | (go_at_call 30; refine (syncedR_any b l.length c 0 m _).mono ?_; rintro e w12 ⟨rfl, hb⟩; have HI3 := Lib.hid (HI2.out.below hb); have j0 := HI3.out.c0; have j1 := HI3.out.c1; obtain ⟨u0, r0⟩ := HI3.out.r0; obtain ⟨u1, r1⟩ := HI3.out.r1; have q0 := HI3.out.e0; have q1 := HI3.out.e1))
      have HD := HI3.out.done (.slice b l.length c) (syncV l.length 0 m)
      have hsz := HI3.out.sz
      have hq : 0 ≤ syncV l.length 0 m ∧ syncV l.length 0 m < l.length := by
        unfold syncV
        split <;> omega
      generalize syncV l.length 0 m = q at *
      generalize ((w12.setCell { block := w.heap.size, off := 0 } (Value.slice b l.length c)).setCell { block := w.heap.size, off := 1 } (Value.int IntKind.i64 q)) = W3 at *
      obtain ⟨d0, d1, d2, d3, d4⟩ := HD
      obtain ⟨hq0, hq1⟩ := hq
      go_wp2_with fail
      refine bodyPost_ret (v := .agg #[.slice b l.length c, .int .i64 q]) (by simp [results, Try.results23, go_sem, d0, d1]) rfl ⟨b, c, l, q, rfl, d2, hsz, by omega, hq0, hq1, d3, d4⟩
end Go.Proofs.Ytebdnnfaghhpkaa
