/- The pages that the tape makes. -/
import Derived.Test.YthimcidkmnobnaaTwk
namespace Go.Proofs.Ythimcidkmnobnaa
open Go.ChangeShapes Go.WideShapes Go.ChangeAt Go.RowKit

structure PInv (w0 w : World) (t : Nat) (a : Option Addr) (len cap g : Nat) (s : ByteArray) (v e : Int) (wr : World) : Prop where
  tp : TP w0 t a len cap wr
  tk : Tock t w wr
  tl : t < w.heap.size
  gl : w.heap.size < g
  gh : g < wr.heap.size
  r0 : wr.cell? ⟨w.heap.size, 0, none⟩ = some (.string ⟨#[]⟩)
  r1 : wr.cell? ⟨w.heap.size, 1, none⟩ = some (.int .i64 0)
  r2 : wr.cell? ⟨w.heap.size, 2, none⟩ = some (.int .i64 0)
  rf : ∀ i, wr.frozen? ⟨w.heap.size, i, none⟩ = false
  c0 : wr.cell? ⟨g, 0, none⟩ = some (.string s)
  c1 : wr.cell? ⟨g, 1, none⟩ = some (.int .i64 v)
  c2 : wr.cell? ⟨g, 2, none⟩ = some (.int .i64 e)
  gf : ∀ i, wr.frozen? ⟨g, i, none⟩ = false
section
variable {w0 w wr w' : World} {t : Nat} {a : Option Addr} {len cap g : Nat} {s : ByteArray} {v e : Int}
theorem PInv.tock (h : PInv w0 w t a len cap g s v e wr) (ht : Tock t wr w') (hp : TP w0 t a len cap w') : PInv w0 w t a len cap g s v e w' := by
  have tl := h.tl; have gl := h.gl; have gh := h.gh
  refine ⟨hp, h.tk.trans ht, tl, gl, Nat.lt_of_lt_of_le gh ht.size, ?_, ?_, ?_, fun i => ?_, ?_, ?_, ?_, fun i => ?_⟩
  · rw [ht.cell (by omega) (by omega)]; exact h.r0
  · rw [ht.cell (by omega) (by omega)]; exact h.r1
  · rw [ht.cell (by omega) (by omega)]; exact h.r2
  · rw [ht.frozen (by omega) (by omega)]; exact h.rf i
  · rw [ht.cell (by omega) (by omega)]; exact h.c0
  · rw [ht.cell (by omega) (by omega)]; exact h.c1
  · rw [ht.cell (by omega) (by omega)]; exact h.c2
  · rw [ht.frozen (by omega) (by omega)]; exact h.gf i
theorem PInv.drew (h : PInv w0 w t a len cap g s v e wr) : PInv w0 w t a len cap g s v e wr.drew :=
  h.tock (Tock.ofBelow (Below.drew (Below.refl wr.heap.size wr)) (Nat.le_refl _)) (h.tp.below (Below.drew (Below.refl wr.heap.size wr)) h.tp.hi)
theorem PInv.setg (h : PInv w0 w t a len cap g s v e wr) (k : Nat) (x : Value) : TP w0 t a len cap (wr.setCell ⟨g, k, none⟩ x) ∧ Tock t w (wr.setCell ⟨g, k, none⟩ x) ∧ g < (wr.setCell ⟨g, k, none⟩ x).heap.size ∧ (∀ i, (wr.setCell ⟨g, k, none⟩ x).cell? ⟨w.heap.size, i, none⟩ = wr.cell? ⟨w.heap.size, i, none⟩) ∧
    (∀ b i, (wr.setCell ⟨g, k, none⟩ x).frozen? ⟨b, i, none⟩ = wr.frozen? ⟨b, i, none⟩) ∧ ∀ i, i ≠ k → (wr.setCell ⟨g, k, none⟩ x).cell? ⟨g, i, none⟩ = wr.cell? ⟨g, i, none⟩ := by
  have tl := h.tl; have gl := h.gl; have gh := h.gh
  have hb : Below (w.heap.size + 1) wr (wr.setCell ⟨g, k, none⟩ x) := (Below.refl _ _).setCell (p := ⟨g, k, none⟩) (by show w.heap.size + 1 ≤ g; omega) _
  refine ⟨h.tp.below hb (by omega), ⟨h.tk.os, h.tk.tape, h.tk.output, Nat.le_trans h.tk.size hb.size, fun i hi hil => (hb.block i (by omega)).trans (h.tk.block i hi hil)⟩, Nat.lt_of_lt_of_le gh hb.size, fun i => hb.cell (p := ⟨w.heap.size, i, none⟩) (by simp only; omega), fun b i => World.frozen?_setCell _ _ _ _, fun i hi => World.cell?_setCell_other _ _ _ _ (by intro h; exact hi (by cases h; rfl))⟩
theorem PInv.set0 (h : PInv w0 w t a len cap g s v e wr) (s' : ByteArray) : PInv w0 w t a len cap g s' v e (wr.setCell ⟨g, 0, none⟩ (.string s')) := by
  obtain ⟨h1, h2, h3, h4, h5, h6⟩ := h.setg 0 (.string s')
  exact ⟨h1, h2, h.tl, h.gl, h3, by rw [h4]; exact h.r0, by rw [h4]; exact h.r1, by rw [h4]; exact h.r2, fun i => by rw [h5]; exact h.rf i, World.cell?_setCell_same _ _ _ h.c0, by rw [h6 _ (by omega)]; exact h.c1, by rw [h6 _ (by omega)]; exact h.c2, fun i => by rw [h5]; exact h.gf i⟩
theorem PInv.set1 (h : PInv w0 w t a len cap g s v e wr) (v' : Int) : PInv w0 w t a len cap g s v' e (wr.setCell ⟨g, 1, none⟩ (.int .i64 v')) := by
  obtain ⟨h1, h2, h3, h4, h5, h6⟩ := h.setg 1 (.int .i64 v')
  exact ⟨h1, h2, h.tl, h.gl, h3, by rw [h4]; exact h.r0, by rw [h4]; exact h.r1, by rw [h4]; exact h.r2, fun i => by rw [h5]; exact h.rf i, by rw [h6 _ (by omega)]; exact h.c0, World.cell?_setCell_same _ _ _ h.c1, by rw [h6 _ (by omega)]; exact h.c2, fun i => by rw [h5]; exact h.gf i⟩
theorem PInv.set2 (h : PInv w0 w t a len cap g s v e wr) (e' : Int) : PInv w0 w t a len cap g s v e' (wr.setCell ⟨g, 2, none⟩ (.int .i64 e')) := by
  obtain ⟨h1, h2, h3, h4, h5, h6⟩ := h.setg 2 (.int .i64 e')
  exact ⟨h1, h2, h.tl, h.gl, h3, by rw [h4]; exact h.r0, by rw [h4]; exact h.r1, by rw [h4]; exact h.r2, fun i => by rw [h5]; exact h.rf i, by rw [h6 _ (by omega)]; exact h.c0, by rw [h6 _ (by omega)]; exact h.c1, World.cell?_setCell_same _ _ _ h.c2, fun i => by rw [h5]; exact h.gf i⟩
theorem PInv.done (h : PInv w0 w t a len cap g s v e wr) : TP w0 t a len cap (((wr.setCell ⟨w.heap.size, 0, none⟩ (.string s)).setCell ⟨w.heap.size, 1, none⟩ (.int .i64 v)).setCell ⟨w.heap.size, 2, none⟩ (.int .i64 e)) ∧
    Tock t w (((wr.setCell ⟨w.heap.size, 0, none⟩ (.string s)).setCell ⟨w.heap.size, 1, none⟩ (.int .i64 v)).setCell ⟨w.heap.size, 2, none⟩ (.int .i64 e)) := by
  have tl := h.tl
  have hb : Below w.heap.size wr (((wr.setCell ⟨w.heap.size, 0, none⟩ (.string s)).setCell ⟨w.heap.size, 1, none⟩ (.int .i64 v)).setCell ⟨w.heap.size, 2, none⟩ (.int .i64 e)) :=
    (((Below.refl _ _).setCell (p := ⟨w.heap.size, 0, none⟩) (Nat.le_refl _) _).setCell (p := ⟨w.heap.size, 1, none⟩) (Nat.le_refl _) _).setCell (p := ⟨w.heap.size, 2, none⟩) (Nat.le_refl _) _
  exact ⟨h.tp.below hb tl, ⟨h.tk.os, h.tk.tape, h.tk.output, Nat.le_trans h.tk.size hb.size, fun i hi hil => (hb.block i hil).trans (h.tk.block i hi hil)⟩⟩
end

set_option maxHeartbeats 2000000 in
theorem mkpage_any (w0 w : World) (t : Nat) (a : Option Addr) (len cap : Nat) (h : TP w0 t a len cap w) :
    Calls Try.prog 9 #[.pointer (some ⟨t, 0, none⟩)] w fun e w' => ∃ p : Pg, p.d.size ≤ 1000 ∧ e = .returned p.val ∧ Tock t w w' ∧ TP w0 t a len cap w' := by
  have hlo := h.lo
  have hhi := h.hi
  have h0 := h.below ((Below.refl w.heap.size w).alloc (Nat.le_refl _) (.cells #[.string ⟨#[]⟩, .int .i64 0, .int .i64 0] 27)) h.hi
  have k0 : Tock t w (w.alloc (.cells #[.string ⟨#[]⟩, .int .i64 0, .int .i64 0] 27)) := Tock.ofBelow ((Below.refl w.heap.size w).alloc (Nat.le_refl _) _) (Nat.le_refl _)
  have c0 : (w.alloc (.cells #[.string ⟨#[]⟩, .int .i64 0, .int .i64 0] 27)).cell? ⟨w.heap.size, 0, none⟩ = some (.string ⟨#[]⟩) := by simp
  have c1 : (w.alloc (.cells #[.string ⟨#[]⟩, .int .i64 0, .int .i64 0] 27)).cell? ⟨w.heap.size, 1, none⟩ = some (.int .i64 0) := by simp
  have c2 : (w.alloc (.cells #[.string ⟨#[]⟩, .int .i64 0, .int .i64 0] 27)).cell? ⟨w.heap.size, 2, none⟩ = some (.int .i64 0) := by simp
  have f0 : ∀ i, (w.alloc (.cells #[.string ⟨#[]⟩, .int .i64 0, .int .i64 0] 27)).frozen? ⟨w.heap.size, i, none⟩ = false := by simp
  have z0 : w.heap.size < (w.alloc (.cells #[.string ⟨#[]⟩, .int .i64 0, .int .i64 0] 27)).heap.size := by simp
  have HH := Lib.hid (And.intro h0 (And.intro k0 (And.intro c0 (And.intro c1 (And.intro c2 (And.intro f0 z0))))))
  clear h0 k0 c0 c1 c2 f0 z0
  go_enter Try.func9, Try.ntmps9
  go_wp2_with fail
  obtain ⟨h0, k0, c0, c1, c2, f0, z0⟩ := HH.out
  clear HH
  generalize w.alloc (.cells #[.string ⟨#[]⟩, .int .i64 0, .int .i64 0] 27) = w1 at *
  refine (bytes_any 16 _ _ _ _ _ _ (by omega) h0).mono ?_
  rintro e w2 ⟨s, hs, rfl, hk, h2⟩
  have HK := Lib.hid hk
  have HS := Lib.hid hs
  clear hk hs
  go_wp2_with fail
  refine (next_tp 4 _ _ _ _ _ _ (by omega) (by omega) h2).mono ?_
  rintro e w3 ⟨r, hr0, hr1, rfl, hk, h3⟩
  have HK2 := Lib.hid (HK.out.trans hk.tock)
  have z3 := hk.size
  clear hk
  go_wp2_with fail
  rw [← z3]
  have hp0 : PInv w0 w t a len cap w3.heap.size s r 0 (w3.alloc (.cells #[.string s, .int .i64 r, .int .i64 0] 27)) := by
    have k := HK2.out
    have hb := (Below.refl w3.heap.size w3).alloc (Nat.le_refl _) (.cells #[.string s, .int .i64 r, .int .i64 0] 27)
    have hsz := k.size
    have e1 : ∀ i, (w3.alloc (.cells #[.string s, .int .i64 r, .int .i64 0] 27)).cell? ⟨w.heap.size, i, none⟩ = w1.cell? ⟨w.heap.size, i, none⟩ := fun i => (hb.cell (p := ⟨w.heap.size, i, none⟩) (by simp only; omega)).trans (k.cell (by omega) (by omega))
    refine ⟨h3.below hb h3.hi, (k0.trans k).trans (Tock.ofBelow hb (Nat.le_refl _)), hhi, by omega, by simp, by rw [e1]; exact c0, by rw [e1]; exact c1, by rw [e1]; exact c2, fun i => ?_, by simp, by simp, by simp, by simp⟩
    rw [hb.frozen (p := ⟨w.heap.size, i, none⟩) (by simp only; omega), k.frozen (by omega) (by omega)]
    exact f0 i
  have hg := Lib.hid (Eq.refl w3.heap.size)
  generalize hW : w3.alloc (.cells #[.string s, .int .i64 r, .int .i64 0] 27) = W at hp0 ⊢
  clear hW hg
  generalize w3.heap.size = g at *
  clear h0 k0 c0 c1 c2 f0 z0 h2 h3 z3 hr0 hr1 HK2 HK h
  have q1 := hp0.c1
  have hpd := hp0.drew
  have qt := hpd.tp
  have ql := hp0.tl
  have qg := hp0.gl
  go_region_with (first | (go_at_call 10; refine (next_tp 4 _ _ _ _ _ _ (by omega) (by omega) qt).mono ?_; rintro e w4 ⟨r4, hr0, hr1, rfl, hk, h4⟩; have hp1 := hpd.tock hk.tock h4; have q1' := hp1.c1; have q2' := hp1.c2; have q3' := hp1.gf))
  all_goals
    have hp2 := hp1.set2 (bits .and .i64 r4 r)
    generalize w4.setCell ⟨g, 2, none⟩ (.int .i64 (bits .and .i64 r4 r)) = w5 at hp2 ⊢
    generalize bits .and .i64 r4 r = e5 at hp2 ⊢
    have q2 := hp2.tp
    clear hp0 q1 hpd qt hk h4 hp1 q1' q2' q3' hr0 hr1
    go_wp2_with fail
    refine (next_tp 16 _ _ _ _ _ _ (by omega) (by omega) q2).mono ?_
    rintro e w6 ⟨x, hx0, hx1, rfl, hk, h6⟩
    have hp3 := hp2.tock hk.tock h6
    clear hp2 q2 hk
    by_cases x0 : x = 0
    · subst x0
      go_wp2_with fail
      refine (next_tp 20 _ _ _ _ _ _ (by omega) (by omega) h6).mono ?_
      rintro e w7 ⟨y, hy0, hy1, rfl, hk, h7⟩
      have hp4 := hp3.tock hk.tock h7
      clear hp3 hk h6
      obtain ⟨y, rfl⟩ := Int.eq_ofNat_of_zero_le hy0
      go_wp2_with fail
      refine (bytes_any y _ _ _ _ _ _ (by omega) h7).mono ?_
      rintro e w8 ⟨s', hs', rfl, hk, h8⟩
      have HS' : Hid (s'.size ≤ 20) := by unfold Hid; omega
      have hp5 := hp4.tock hk h8
      have b0 := hp5.c0; have b1 := hp5.c1; have b2 := hp5.c2; have bf := hp5.gf
      have hp6 := hp5.set0 s'
      have d0 := hp6.r0; have d1 := hp6.r1; have d2 := hp6.r2; have df := hp6.rf
      have g0 := hp6.c0; have g1 := hp6.c1; have g2 := hp6.c2
      have HP := Lib.hid hp6
      clear hp4 hk h7 hs' hp5 hp6 h8
      go_wp2_with fail
      refine bodyPost_ret (v := .agg #[.string s', .int .i64 r, .int .i64 e5]) (by simp [results, Try.results9, go_sem, d0, d1, d2]) rfl ⟨⟨s', r, e5⟩, by have := HS'.out; simp only; omega, rfl, HP.out.done.2, HP.out.done.1⟩
    by_cases x1 : x = 1
    · subst x1
      clear x0
      go_wp2_with fail
      refine (next_tp 6 _ _ _ _ _ _ (by omega) (by omega) h6).mono ?_
      rintro e w7 ⟨y, hy0, hy1, rfl, hk, h7⟩
      have hp5 := hp3.tock hk.tock h7
      have b0 := hp5.c0; have b1 := hp5.c1; have b2 := hp5.c2; have bf := hp5.gf
      have hp6 := hp5.set2 (y - 1)
      have d0 := hp6.r0; have d1 := hp6.r1; have d2 := hp6.r2; have df := hp6.rf
      have g0 := hp6.c0; have g1 := hp6.c1; have g2 := hp6.c2
      have HP := Lib.hid hp6
      clear hp3 hk h6 hp5 hp6 h7
      go_wp2_with fail
      refine bodyPost_ret (v := .agg #[.string s, .int .i64 r, .int .i64 (y - 1)]) (by simp [results, Try.results9, go_sem, d0, d1, d2]) rfl ⟨⟨s, r, y - 1⟩, by have := HS.out; simp only; omega, rfl, HP.out.done.2, HP.out.done.1⟩
    by_cases x2 : x = 2
    · subst x2
      clear x0 x1
      go_wp2_with fail
      refine (next_tp 6 _ _ _ _ _ _ (by omega) (by omega) h6).mono ?_
      rintro e w7 ⟨y, hy0, hy1, rfl, hk, h7⟩
      have hp5 := hp3.tock hk.tock h7
      have b0 := hp5.c0; have b1 := hp5.c1; have b2 := hp5.c2; have bf := hp5.gf
      have hp6 := hp5.set1 (y - 1)
      have d0 := hp6.r0; have d1 := hp6.r1; have d2 := hp6.r2; have df := hp6.rf
      have g0 := hp6.c0; have g1 := hp6.c1; have g2 := hp6.c2
      have HP := Lib.hid hp6
      clear hp3 hk h6 hp5 hp6 h7
      go_wp2_with fail
      refine bodyPost_ret (v := .agg #[.string s, .int .i64 (y - 1), .int .i64 e5]) (by simp [results, Try.results9, go_sem, d0, d1, d2]) rfl ⟨⟨s, y - 1, e5⟩, by have := HS.out; simp only; omega, rfl, HP.out.done.2, HP.out.done.1⟩
    · have b0 := hp3.c0; have b1 := hp3.c1; have b2 := hp3.c2
      have d0 := hp3.r0; have d1 := hp3.r1; have d2 := hp3.r2; have df := hp3.rf
      have n0 : (x == 0) = false := by simpa using x0
      have n1 : (x == 1) = false := by simpa using x1
      have n2 : (x == 2) = false := by simpa using x2
      have HP := Lib.hid hp3
      clear hp3 h6
      go_wp2_with fail
      refine bodyPost_ret (v := .agg #[.string s, .int .i64 r, .int .i64 e5]) (by simp [results, Try.results9, go_sem, d0, d1, d2]) rfl ⟨⟨s, r, e5⟩, by have := HS.out; simp only; omega, rfl, HP.out.done.2, HP.out.done.1⟩
end Go.Proofs.Ythimcidkmnobnaa
