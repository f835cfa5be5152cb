/- The law's awake(). -/
import Derived.Test.YtflcbefomjlgmaaVa
set_option linter.unusedSimpArgs false
set_option linter.unusedVariables false
namespace Go.Proofs.Ytflcbefomjlgmaa
open Go.ChangeShapes Go.WideShapes Go.ChangeAt Go.RowKit

def aw0 : De := newD 2
def aw1 : De := openD aw0 0 1 1 0
def aw2 : De := openD aw1 0 2 2 3
def aw3 : De := closeD aw2 0 0
def aw4 : De := dupD aw3 0 1
def aw5 : De := updD aw4 1 7 3
def aw6 : De := forkD aw5 0 1
theorem aw_rt0 : Rt aw0 := rt_new (by kernel_rfl)
theorem aw_sz {d : De} (h : Rt d) {x : Dv} (e : x.pl = d) : DSz x := (check_sz (rt_check h)).sz e
/-- variable D has x, whatever lies elsewhere -/
structure Ax (w : World) (D : Nat) (d : De) (W : World) (x : Dv) : Prop where
  box : Bx W D x
  vi : Vi W [D] x
  pl : x.pl = d
  bel : Below w.heap.size w W
  lo : w.heap.size ≤ D
theorem Ax.below {w W W' : World} {D : Nat} {d : De} {x : Dv} (h : Ax w D d W x) (hb : Below W.heap.size W W') : Ax w D d W' x :=
  ⟨h.box.below hb h.box.at'.hi, h.vi.below hb, h.pl, h.bel.trans (hb.mono h.bel.size), h.lo⟩
theorem Ax.put {w W W2 : World} {D : Nat} {d d' : De} {x y : Dv} (h : Ax w D d W x) (hb : Below W.heap.size W W2) (ha : DAns W x W2 y) (he : y.pl = d') :
    Ax w D d' ((W2.setCell ⟨D, 0, none⟩ (.slice y.oa y.o.length y.oc)).setCell ⟨D, 1, none⟩ (.slice y.ta y.t.length y.tc)) y := by
  have h2 := h.below hb
  have hv := ha.vi h.vi (fun b hb => by
    simp only [List.mem_cons, List.not_mem_nil, or_false] at hb
    rw [hb]; exact h.box.at'.hi)
  exact ⟨h2.box.put y, (hv.set (by simp) _ _).set (by simp) _ _, he, (h2.bel.setCell (p := ⟨D, 0, none⟩) h.lo _).setCell (p := ⟨D, 1, none⟩) h.lo _, h.lo⟩
theorem Ax.far {w W : World} {D : Nat} {d : De} {x : Dv} (h : Ax w D d W x) (X : Nat) (hX : X ≠ D) (hB : w.heap.size ≤ X) (hn : ∀ b, DBlk x b → b ≠ X) (o : Nat) (v : Value) : Ax w D d (W.setCell ⟨X, o, none⟩ v) x :=
  ⟨h.box.other (p := ⟨X, o, none⟩) hX.symm v, ⟨h.vi.di.keepB (by simp [World.setCell]) fun b hb => Below.heap_setCell W ⟨X, o, none⟩ v b (hn b hb), h.vi.out⟩, h.pl, h.bel.setCell (p := ⟨X, o, none⟩) hB v, h.lo⟩
structure Xc (W : World) (X D : Nat) (a : Dn) : Prop where
  c : DCel W X 0 a
  lt : X < W.heap.size
  ne : X ≠ D
theorem Xc.below {W W' : World} {X D : Nat} {a : Dn} (h : Xc W X D a) (hb : Below W.heap.size W W') : Xc W' X D a := ⟨h.c.below hb h.lt, Nat.lt_of_lt_of_le h.lt hb.size, h.ne⟩
theorem Xc.far {W : World} {X D : Nat} {a : Dn} (h : Xc W X D a) (u v : Value) : Xc ((W.setCell ⟨D, 0, none⟩ u).setCell ⟨D, 1, none⟩ v) X D a := by
  have e : ∀ o, ((W.setCell ⟨D, 0, none⟩ u).setCell ⟨D, 1, none⟩ v).cell? ⟨X, o, none⟩ = W.cell? ⟨X, o, none⟩ := fun o => by
    rw [World.cell?_setCell_other _ _ _ _ (by intro e; exact h.ne (Addr.mk.inj e).1.symm), World.cell?_setCell_other _ _ _ _ (by intro e; exact h.ne (Addr.mk.inj e).1.symm)]
  exact ⟨⟨(e _).trans h.c.c0, (e _).trans h.c.c1, (e _).trans h.c.c2, (e _).trans h.c.c3, (e _).trans h.c.c4⟩, by simpa [World.setCell] using h.lt, h.ne⟩
theorem aw_o1 (x : Dv) (W : World) (h : DIn W x) (hp : x.pl = aw0) : Calls Try.prog 10 #[.agg #[.slice x.oa x.o.length x.oc, .slice x.ta x.t.length x.tc], .int .i64 0, .int .i64 1, .int .i64 1, .int .i64 0] W fun e w' => ∃ y : Dv, e = .returned (.tuple #[.agg #[.slice y.oa y.o.length y.oc, .slice y.ta y.t.length y.tc], .int .i64 0, .int .i64 0]) ∧ y.pl = aw1 ∧ DAns W x w' y ∧ Below W.heap.size W w' := by
  have h1 := open_v x 0 1 1 0 W h (aw_sz aw_rt0 hp)
  rw [hp, show openF aw0 0 1 1 0 = 0 from by kernel_rfl, show openE aw0 0 1 1 0 = 0 from by kernel_rfl] at h1
  exact h1
theorem aw_rt1 : Rt aw1 := rt_open aw_rt0
theorem aw_o2 (x : Dv) (W : World) (h : DIn W x) (hp : x.pl = aw1) : Calls Try.prog 10 #[.agg #[.slice x.oa x.o.length x.oc, .slice x.ta x.t.length x.tc], .int .i64 0, .int .i64 2, .int .i64 2, .int .i64 3] W fun e w' => ∃ y : Dv, e = .returned (.tuple #[.agg #[.slice y.oa y.o.length y.oc, .slice y.ta y.t.length y.tc], .int .i64 1, .int .i64 0]) ∧ y.pl = aw2 ∧ DAns W x w' y ∧ Below W.heap.size W w' := by
  have h1 := open_v x 0 2 2 3 W h (aw_sz aw_rt1 hp)
  rw [hp, show openF aw1 0 2 2 3 = 1 from by kernel_rfl, show openE aw1 0 2 2 3 = 0 from by kernel_rfl] at h1
  exact h1
theorem aw_rt2 : Rt aw2 := rt_open aw_rt1
theorem aw_cl (x : Dv) (W : World) (h : DIn W x) (hp : x.pl = aw2) : Calls Try.prog 17 #[.agg #[.slice x.oa x.o.length x.oc, .slice x.ta x.t.length x.tc], .int .i64 0, .int .i64 0] W fun e w' => ∃ y : Dv, e = .returned (.tuple #[.agg #[.slice y.oa y.o.length y.oc, .slice y.ta y.t.length y.tc], .bool true, .int .i64 0]) ∧ y.pl = aw3 ∧ DAns W x w' y ∧ Below W.heap.size W w' := by
  have h1 := close_v x 0 0 W h (aw_sz aw_rt2 hp)
  rw [hp, show closeG aw2 0 0 = true from by kernel_rfl, show numE aw2 0 0 = 0 from by kernel_rfl] at h1
  exact h1
theorem aw_rt3 : Rt aw3 := rt_close aw_rt2
theorem aw_du (x : Dv) (W : World) (h : DIn W x) (hp : x.pl = aw3) : Calls Try.prog 12 #[.agg #[.slice x.oa x.o.length x.oc, .slice x.ta x.t.length x.tc], .int .i64 0, .int .i64 1] W fun e w' => ∃ y : Dv, e = .returned (.tuple #[.agg #[.slice y.oa y.o.length y.oc, .slice y.ta y.t.length y.tc], .int .i64 0, .int .i64 0]) ∧ y.pl = aw4 ∧ DAns W x w' y ∧ Below W.heap.size W w' := by
  have h1 := dup_v x 0 1 W h (aw_sz aw_rt3 hp)
  rw [hp, show dupF aw3 0 1 = 0 from by kernel_rfl, show dupE aw3 0 1 = 0 from by kernel_rfl] at h1
  exact h1
theorem aw_rt4 : Rt aw4 := rt_dup aw_rt3
theorem aw_l1 (x : Dv) (W : World) (h : DIn W x) (hp : x.pl = aw4) : Calls Try.prog 19 #[.agg #[.slice x.oa x.o.length x.oc, .slice x.ta x.t.length x.tc], .int .i64 0, .int .i64 0] W (RetW (.tuple #[.int .i64 1, .agg #[.int .i64 2, .int .i64 2, .int .i64 0, .int .i64 3, .int .i64 2], .int .i64 0]) W) := by
  have h1 := lookup_any x 0 0 W h (aw_sz aw_rt4 hp)
  rw [hp, show lookR aw4 0 0 = .tuple #[.int .i64 1, .agg #[.int .i64 2, .int .i64 2, .int .i64 0, .int .i64 3, .int .i64 2], .int .i64 0] from by kernel_rfl] at h1
  exact h1
theorem aw_up (x : Dv) (W : World) (h : DIn W x) (hp : x.pl = aw4) : Calls Try.prog 21 #[.agg #[.slice x.oa x.o.length x.oc, .slice x.ta x.t.length x.tc], .int .i64 1, .agg #[.int .i64 2, .int .i64 2, .int .i64 7, .int .i64 3, .int .i64 2]] W fun e w' => ∃ y : Dv, e = .returned (.tuple #[.agg #[.slice y.oa y.o.length y.oc, .slice y.ta y.t.length y.tc], .int .i64 0]) ∧ y.pl = aw5 ∧ DAns W x w' y ∧ Below W.heap.size W w' := by
  have h1 := upd_v x 1 2 2 7 3 2 W h (aw_sz aw_rt4 hp)
  rw [hp, show updE aw4 1 7 3 = 0 from by kernel_rfl] at h1
  exact h1
theorem aw_rt5 : Rt aw5 := rt_upd aw_rt4
theorem aw_l2 (x : Dv) (W : World) (h : DIn W x) (hp : x.pl = aw5) : Calls Try.prog 19 #[.agg #[.slice x.oa x.o.length x.oc, .slice x.ta x.t.length x.tc], .int .i64 0, .int .i64 1] W (RetW (.tuple #[.int .i64 1, .agg #[.int .i64 2, .int .i64 2, .int .i64 7, .int .i64 3, .int .i64 2], .int .i64 0]) W) := by
  have h1 := lookup_any x 0 1 W h (aw_sz aw_rt5 hp)
  rw [hp, show lookR aw5 0 1 = .tuple #[.int .i64 1, .agg #[.int .i64 2, .int .i64 2, .int .i64 7, .int .i64 3, .int .i64 2], .int .i64 0] from by kernel_rfl] at h1
  exact h1
theorem aw_fo (x : Dv) (W : World) (h : DIn W x) (hp : x.pl = aw5) : Calls Try.prog 15 #[.agg #[.slice x.oa x.o.length x.oc, .slice x.ta x.t.length x.tc], .int .i64 0, .int .i64 1] W fun e w' => ∃ y : Dv, e = .returned (.tuple #[.agg #[.slice y.oa y.o.length y.oc, .slice y.ta y.t.length y.tc], .int .i64 0]) ∧ y.pl = aw6 ∧ DAns W x w' y ∧ Below W.heap.size W w' := by
  have h1 := fork_v x 0 1 W h (aw_sz aw_rt5 hp)
  rw [hp, show forkE aw5 0 1 = 0 from by kernel_rfl] at h1
  exact h1
theorem aw_rt6 : Rt aw6 := rt_fork aw_rt5
theorem aw_ck (x : Dv) (W : World) (h : DIn W x) (hp : x.pl = aw6) : Calls Try.prog 23 #[.agg #[.slice x.oa x.o.length x.oc, .slice x.ta x.t.length x.tc]] W (RetW (.bool true) W) := by
  have h1 := check_any' x W h (aw_sz aw_rt6 hp).o (aw_sz aw_rt6 hp).t
  rw [hp, show checkV aw6 = true from rt_check aw_rt6] at h1
  exact h1
theorem aw_c0 (W : World) : Calls Try.prog 23 #[.agg #[.slice none 0 0, .slice none 0 0]] W (RetW (.bool false) W) := by
  have h1 := check_any' Dv.nil W (DIn.nil W) (Nat.zero_le _) (Nat.zero_le _)
  rw [show checkV (Dv.pl Dv.nil) = false from by kernel_rfl] at h1
  exact h1

set_option maxHeartbeats 8000000 in
theorem awake_any (w : World) : Calls Try.prog 27 #[] w (RetW (.bool true) w) := by
  have HN := Lib.hid (new25_v 2 w)
  rw [show newE 2 = 0 from by kernel_rfl, show newD 2 = aw0 from rfl] at HN
  go_enter Try.func27, Try.ntmps27
  go_wp2_with fail
  refine HN.out.mono ?_
  rintro e w1 ⟨x0, rfl, hpl, ha, hb⟩
  have hb2 : Below w1.heap.size w1 (w1.alloc (Obj.cells #[.slice x0.oa x0.o.length x0.oc, .slice x0.ta x0.t.length x0.tc] 29)) := (Below.refl _ _).alloc (Nat.le_refl _) _
  have HA : Hid (Ax w w1.heap.size aw0 (w1.alloc (Obj.cells #[.slice x0.oa x0.o.length x0.oc, .slice x0.ta x0.t.length x0.tc] 29)) x0) := by
    refine ⟨Bx.new w1 x0, ⟨ha.di.below hb2, fun b hb hm => ?_⟩, hpl, hb.trans (hb2.mono hb.size), hb.size⟩
    simp only [List.mem_cons, List.not_mem_nil, or_false] at hm
    have := ha.di.blk hb
    omega
  clear hpl ha hb hb2 HN
  go_upto_region 2 with (fail)
  generalize w1.alloc (Obj.cells #[.slice x0.oa x0.o.length x0.oc, .slice x0.ta x0.t.length x0.tc] 29) = v0 at *
  generalize w1.heap.size = D at *
  obtain ⟨c0, c1, c2, c3, c4⟩ := HA.out.box.cc
  go_wp2_with fail
  refine (aw_o1 x0 _ HA.out.vi.di HA.out.pl).mono ?_
  rintro e w2 ⟨x1, rfl, hpl, ha, hb⟩
  have HA2 := Lib.hid (HA.out.put hb ha hpl)
  obtain ⟨z0, z1, z2, z3, z4⟩ := (HA.out.below hb).box.cc
  clear HA c0 c1 c2 c3 c4 hpl ha hb
  have HA := HA2
  clear HA2
  go_upto_region 3 with (fail)
  generalize ((w2.setCell ⟨D, 0, none⟩ (.slice x1.oa x1.o.length x1.oc)).setCell ⟨D, 1, none⟩ (.slice x1.ta x1.t.length x1.tc)) = v1 at *
  clear z0 z1 z2 z3 z4
  obtain ⟨c0, c1, c2, c3, c4⟩ := HA.out.box.cc
  go_wp2_with fail
  refine (aw_o2 x1 _ HA.out.vi.di HA.out.pl).mono ?_
  rintro e w2 ⟨x2, rfl, hpl, ha, hb⟩
  have HA2 := Lib.hid (HA.out.put hb ha hpl)
  obtain ⟨z0, z1, z2, z3, z4⟩ := (HA.out.below hb).box.cc
  clear HA c0 c1 c2 c3 c4 hpl ha hb
  have HA := HA2
  clear HA2
  go_upto_region 4 with (fail)
  generalize ((w2.setCell ⟨D, 0, none⟩ (.slice x2.oa x2.o.length x2.oc)).setCell ⟨D, 1, none⟩ (.slice x2.ta x2.t.length x2.tc)) = v2 at *
  clear z0 z1 z2 z3 z4
  obtain ⟨c0, c1, c2, c3, c4⟩ := HA.out.box.cc
  go_wp2_with fail
  refine (aw_cl x2 _ HA.out.vi.di HA.out.pl).mono ?_
  rintro e w2 ⟨x3, rfl, hpl, ha, hb⟩
  have HA2 := Lib.hid (HA.out.put hb ha hpl)
  obtain ⟨z0, z1, z2, z3, z4⟩ := (HA.out.below hb).box.cc
  clear HA c0 c1 c2 c3 c4 hpl ha hb
  have HA := HA2
  clear HA2
  go_upto_region 5 with (fail)
  generalize ((w2.setCell ⟨D, 0, none⟩ (.slice x3.oa x3.o.length x3.oc)).setCell ⟨D, 1, none⟩ (.slice x3.ta x3.t.length x3.tc)) = v3 at *
  clear z0 z1 z2 z3 z4
  obtain ⟨c0, c1, c2, c3, c4⟩ := HA.out.box.cc
  go_wp2_with fail
  refine (aw_du x3 _ HA.out.vi.di HA.out.pl).mono ?_
  rintro e w2 ⟨x4, rfl, hpl, ha, hb⟩
  have HA2 := Lib.hid (HA.out.put hb ha hpl)
  obtain ⟨z0, z1, z2, z3, z4⟩ := (HA.out.below hb).box.cc
  clear HA c0 c1 c2 c3 c4 hpl ha hb
  have HA := HA2
  clear HA2
  go_upto_region 6 with (fail)
  generalize ((w2.setCell ⟨D, 0, none⟩ (.slice x4.oa x4.o.length x4.oc)).setCell ⟨D, 1, none⟩ (.slice x4.ta x4.t.length x4.tc)) = v4 at *
  clear z0 z1 z2 z3 z4
  obtain ⟨c0, c1, c2, c3, c4⟩ := HA.out.box.cc
  go_wp2_with fail
  refine (aw_l1 x4 _ HA.out.vi.di HA.out.pl).mono ?_
  rintro e w2 ⟨rfl, hb⟩
  have HA2 := Lib.hid (HA.out.below hb)
  clear HA c0 c1 c2 c3 c4 hb
  have hb := (Below.refl w2.heap.size w2).alloc (Nat.le_refl _) (Obj.cells #[.int .i64 2, .int .i64 2, .int .i64 7, .int .i64 3, .int .i64 2] 34)
  have HA := Lib.hid (HA2.out.below hb)
  have HX : Hid (Xc (w2.alloc (Obj.cells #[.int .i64 2, .int .i64 2, .int .i64 7, .int .i64 3, .int .i64 2] 34)) w2.heap.size D ⟨2, 2, 7, 3, 2⟩) := ⟨DCel.new w2 ⟨2, 2, 7, 3, 2⟩, by rw [alloc_size]; omega, by have := HA2.out.box.at'.hi; omega⟩
  clear HA2 hb
  go_upto_region 8 with (fail)
  generalize w2.alloc (Obj.cells #[.int .i64 2, .int .i64 2, .int .i64 7, .int .i64 3, .int .i64 2] 34) = v4HX at *
  generalize w2.heap.size = bHX at *
  obtain ⟨s0, s1, s2, s3, s4⟩ := HX.out.c
  simp only [Nat.zero_add] at s0 s1 s2 s3 s4
  obtain ⟨c0, c1, c2, c3, c4⟩ := HA.out.box.cc
  go_wp2_with fail
  refine (aw_up x4 _ HA.out.vi.di HA.out.pl).mono ?_
  rintro e w2 ⟨x5, rfl, hpl, ha, hb⟩
  have HA2 := Lib.hid (HA.out.put hb ha hpl)
  obtain ⟨z0, z1, z2, z3, z4⟩ := (HA.out.below hb).box.cc
  replace HX := Lib.hid ((HX.out.below hb).far (.slice x5.oa x5.o.length x5.oc) (.slice x5.ta x5.t.length x5.tc))
  clear s0 s1 s2 s3 s4
  clear HA c0 c1 c2 c3 c4 hpl ha hb
  have HA := HA2
  clear HA2
  go_upto_region 9 with (fail)
  generalize ((w2.setCell ⟨D, 0, none⟩ (.slice x5.oa x5.o.length x5.oc)).setCell ⟨D, 1, none⟩ (.slice x5.ta x5.t.length x5.tc)) = v5 at *
  clear z0 z1 z2 z3 z4
  obtain ⟨c0, c1, c2, c3, c4⟩ := HA.out.box.cc
  go_wp2_with fail
  refine (aw_l2 x5 _ HA.out.vi.di HA.out.pl).mono ?_
  rintro e w2 ⟨rfl, hb⟩
  have HA2 := Lib.hid (HA.out.below hb)
  replace HX := Lib.hid (HX.out.below hb)
  clear HA c0 c1 c2 c3 c4 hb
  have hb := (Below.refl w2.heap.size w2).alloc (Nat.le_refl _) (Obj.cells #[.int .i64 2, .int .i64 2, .int .i64 7, .int .i64 3, .int .i64 2] 34)
  have HA := Lib.hid (HA2.out.below hb)
  have HY : Hid (Xc (w2.alloc (Obj.cells #[.int .i64 2, .int .i64 2, .int .i64 7, .int .i64 3, .int .i64 2] 34)) w2.heap.size D ⟨2, 2, 7, 3, 2⟩) := ⟨DCel.new w2 ⟨2, 2, 7, 3, 2⟩, by rw [alloc_size]; omega, by have := HA2.out.box.at'.hi; omega⟩
  replace HX := Lib.hid (HX.out.below hb)
  clear HA2 hb
  go_upto_region 10 with (fail)
  generalize w2.alloc (Obj.cells #[.int .i64 2, .int .i64 2, .int .i64 7, .int .i64 3, .int .i64 2] 34) = v5HY at *
  generalize w2.heap.size = bHY at *
  obtain ⟨c0, c1, c2, c3, c4⟩ := HA.out.box.cc
  go_wp2_with fail
  refine (aw_fo x5 _ HA.out.vi.di HA.out.pl).mono ?_
  rintro e w2 ⟨x6, rfl, hpl, ha, hb⟩
  have HA2 := Lib.hid (HA.out.put hb ha hpl)
  obtain ⟨z0, z1, z2, z3, z4⟩ := (HA.out.below hb).box.cc
  replace HX := Lib.hid ((HX.out.below hb).far (.slice x6.oa x6.o.length x6.oc) (.slice x6.ta x6.t.length x6.tc))
  replace HY := Lib.hid ((HY.out.below hb).far (.slice x6.oa x6.o.length x6.oc) (.slice x6.ta x6.t.length x6.tc))
  clear HA c0 c1 c2 c3 c4 hpl ha hb
  have HA := HA2
  clear HA2
  go_upto_region 11 with (fail)
  generalize ((w2.setCell ⟨D, 0, none⟩ (.slice x6.oa x6.o.length x6.oc)).setCell ⟨D, 1, none⟩ (.slice x6.ta x6.t.length x6.tc)) = v6 at *
  clear z0 z1 z2 z3 z4
  obtain ⟨c0, c1, c2, c3, c4⟩ := HA.out.box.cc
  obtain ⟨s0, s1, s2, s3, s4⟩ := HX.out.c
  obtain ⟨u0, u1, u2, u3, u4⟩ := HY.out.c
  simp only [Nat.zero_add] at s0 s1 s2 s3 s4 u0 u1 u2 u3 u4
  go_wp2_with fail
  refine (aw_ck x6 _ HA.out.vi.di HA.out.pl).mono ?_
  rintro e w2 ⟨rfl, hb⟩
  have HB := Lib.hid (HA.out.bel.trans (hb.mono HA.out.bel.size))
  clear hb
  go_wp2_with fail
  refine (aw_c0 w2).mono ?_
  rintro e w3 ⟨rfl, hb⟩
  have HB2 := Lib.hid (HB.out.trans (hb.mono HB.out.size))
  clear hb
  go_wp2_with fail
  go_ret
  exact RetW.mk rfl HB2.out
end Go.Proofs.Ytflcbefomjlgmaa
