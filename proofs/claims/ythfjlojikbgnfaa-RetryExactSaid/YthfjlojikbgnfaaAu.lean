/- retry.Add. -/
import Derived.Test.YthfjlojikbgnfaaAd
namespace Go.Proofs.Ythfjlojikbgnfaa
open Go.ChangeShapes Go.WideShapes Go.ChangeAt Go.RowKit

theorem insert_any (B : Nat) (a : Option Addr) (cap i vb : Nat) (l : List Ar) (x : Ar) (w : World) (ho : w.ownsRow B 40 11 (.slice a l.length cap) l.length (flat l)) (hB : B ≤ w.heap.size) (hl : l.length ≤ 100) (hi : i ≤ l.length) (hv : w.rangeAt vb 0 x.cells) (hvl : vb < w.heap.size) (hs : Shp w vb) (hne : ∀ q, a = some q → q.block ≠ vb) :
    Calls Try.prog 29 #[.slice a l.length cap, .int .i64 i, .slice (some ⟨vb, 0, none⟩) 1 1] w (InsPost B (.slice a l.length cap) l i x w) := by
  by_cases he : i = l.length
  · subst he
    exact insert_end B a cap l x vb w ho hB hl hv
  · have hlt : i < l.length := by omega
    rcases ho.2 with ⟨_, h0⟩ | ⟨g, c, cur, hg, hBg, hgg, h1, h2, h3, h4⟩
    · omega
    · cases hg
      have hn : vb ≠ g := fun e => hne _ rfl e.symm
      by_cases hc : cap = l.length
      · exact insert_grow B g cap i vb l x w ho hB hl hlt hc hvl hv
      · exact insert_shift B g cap i vb l x w ho hl hlt (by omega) hv hs hn
/-- the first place of l at which x comes ahead of what stands there -/
def place (x : Ar) : List Ar → Nat
  | [] => 0
  | y :: r => if lessB x y = true then 0 else place x r + 1
def addK (l : List Ar) (x : Ar) : List Ar := insAt l (place x l) x
theorem place_le (x : Ar) (l : List Ar) : place x l ≤ l.length := by
  induction l with
  | nil => exact Nat.le_refl _
  | cons y r ih => unfold place; split <;> simp <;> omega
theorem place_hit (x : Ar) (l : List Ar) : ∀ k, k < l.length → lessB x (l.getD k Ar.zero) = true → (∀ j, j < k → lessB x (l.getD j Ar.zero) = false) → place x l = k := by
  induction l with
  | nil => intro k hk; simp at hk
  | cons y r ih =>
    intro k hk h1 h2
    cases k with
    | zero => unfold place; rw [if_pos (by simpa [List.getD] using h1)]
    | succ k =>
      have h0 := h2 0 (by omega)
      unfold place
      rw [if_neg (by simpa [List.getD] using h0), ih k (by simpa using hk) (by simpa [List.getD] using h1) (fun j hj => by have := h2 (j + 1) (by omega); simpa [List.getD] using this)]
theorem place_miss (x : Ar) (l : List Ar) : (∀ j, j < l.length → lessB x (l.getD j Ar.zero) = false) → place x l = l.length := by
  induction l with
  | nil => intro _; rfl
  | cons y r ih =>
    intro h2
    have h0 := h2 0 (by simp)
    unfold place
    rw [if_neg (by simpa [List.getD] using h0), ih (fun j hj => by have := h2 (j + 1) (by simp; omega); simpa [List.getD] using this)]
    rfl
theorem place_key (x : Ar) (l : List Ar) : place (key x) (l.map key) = place x l := by
  induction l with
  | nil => rfl
  | cons y r ih =>
    show (if lessB x y = true then 0 else place (key x) (r.map key) + 1) = _
    rw [ih]; rfl
def AddPost (l : List Ar) (x : Ar) (w : World) (e : Ending) (w' : World) : Prop :=
  ∃ a c l', e = .returned (.slice a (l.length + 1) c) ∧ l'.map key = addK (l.map key) (key x) ∧ w'.ownsRow w.heap.size 40 11 (.slice a (l.length + 1) c) (l.length + 1) (flat l') ∧ (∀ y ∈ l', MemOK w' y ∧ MemLo w.heap.size y) ∧ Below w.heap.size w w'

theorem Shp.new (w : World) (y : Ar) : Shp (w.alloc (.cells y.cells.toArray 40)) w.heap.size := by
  constructor
  · simp only [World.shape?]
    rw [heap_alloc_new]
    rfl
  · intro o
    exact World.frozen?_alloc_at (w := w) _ _ _ o rfl
theorem insAt_map (l : List Ar) (i : Nat) (x : Ar) : (insAt l i x).map key = insAt (l.map key) i (key x) := by
  unfold insAt
  rw [List.map_append, List.map_take, List.map_cons, List.map_drop]
theorem mem_insAt {l : List Ar} {i : Nat} {x z : Ar} (h : z ∈ insAt l i x) : z ∈ l ∨ z = x := by
  unfold insAt at h
  rcases List.mem_append.1 h with h | h
  · exact Or.inl (List.mem_of_mem_take h)
  · rcases List.mem_cons.1 h with h | h
    · exact Or.inr h
    · exact Or.inl (List.mem_of_mem_drop h)
/-- the end of Add: what Insert answers is what Add answers -/
theorem add_end (a2 : Option Addr) (c2 I : Nat) (l l2 : List Ar) (x y : Ar) (w w1 w2 w3 W4 w5 : World) (e : Ending) (hI : place x l = I)
    (hky : l2.map key = l.map key) (how : w2.ownsRow w1.drew.heap.size 40 11 (.slice a2 l.length c2) l.length (flat l2))
    (hme : ∀ z ∈ l2, MemOK w2 z ∧ MemLo w1.drew.heap.size z ∧ ∀ q, a2 = some q → ∀ m, z.ma = some m → m.block ≠ q.block)
    (hw1 : w.heap.size ≤ w1.heap.size) (hw2 : w1.heap.size ≤ w2.heap.size) (h3 : Below w.heap.size w w3) (h23 : Below w2.heap.size w2 w3) (h34 : Below w3.heap.size w3 W4) (hmo : MemOK w3 y) (hlo : MemLo w2.heap.size y) (hyk : key y = key x)
    (h : InsPost w1.drew.heap.size (.slice a2 l.length c2) l2 I y W4 e w5) : AddPost l x w e w5 := by
  obtain ⟨a, c, rfl, ho, hfr, hb⟩ := h
  have hlen : l2.length = l.length := by have := congrArg List.length hky; simpa using this
  rw [hlen] at ho
  have hs1 : w1.drew.heap.size = w1.heap.size := rfl
  have hb4 : Below w.heap.size w W4 := h3.trans (h34.mono h3.size)
  have key5 : ∀ z, MemOK W4 z → (∀ q, a2 = some q → ∀ m, z.ma = some m → m.block ≠ q.block) → MemOK w5 z := fun z hz hq =>
    ⟨hz.1, hz.2.1, hz.2.2.imp (fun hk => hk.keep hb.size fun g o e h1 i => World.cell?_of_block (w := W4) (a := ⟨g, i, none⟩) (hfr g h1 (by
      intro e2
      cases a2 with
      | none => cases e2
      | some q => exact hq q rfl _ e (by cases e2; rfl)))) (fun h => h)⟩
  refine ⟨a, c, insAt l2 I y, by rw [hlen], ?_, own_mono ho (by omega), ?_, hb4.trans (hb.mono (by omega))⟩
  · rw [insAt_map, hky, hyk, addK, place_key, hI]
  · intro z hz
    rcases mem_insAt hz with hz | rfl
    · obtain ⟨m1, m2, m3⟩ := hme z hz
      exact ⟨key5 z ((m1.below h23).below h34) m3, fun q hq => by have := m2 q hq; omega⟩
    · refine ⟨key5 z (hmo.below h34) fun q hq m hm => ?_, fun q hq => by have := hlo q hq; omega⟩
      subst hq
      have h5 : q.block < w2.heap.size := (how.lt q.block rfl).2
      have h6 := hlo m hm
      omega
set_option maxHeartbeats 4000000 in
theorem add_any (a : Option Addr) (l : List Ar) (cap : Nat) (x : Ar) (w : World) (h : ARow w a cap l) (hm : ∀ y ∈ l, MemOK w y) (hmx : MemOK w x) (hl : l.length ≤ 50) :
    Calls Try.prog 20 #[.slice a l.length cap, arVal x] w (AddPost l x w) := by
  obtain ⟨W0, hW0⟩ : ∃ W0, W0 = w.alloc (Obj.cells x.cells.toArray 40) := ⟨_, rfl⟩
  have HA0 : Hid (At W0 w.heap.size x.cells) := by rw [hW0]; exact At.new w x.cells 40
  have HB0 : Hid (Below w.heap.size w W0) := by rw [hW0]; exact (Below.refl _ _).alloc (Nat.le_refl _) _
  have HS0 : Hid (W0.heap.size = w.heap.size + 1) := by rw [hW0]; simp [Hid]
  have HI : Hid (Calls Try.prog 26 #[.slice a l.length cap, .func (.func 27) #[] #[.pointer (some ⟨w.heap.size, 0, none⟩)]] W0 fun e w' => ∃ r : Int, e = .returned (.int .i64 r) ∧ ((r = -1 ∧ ∀ j, j < l.length → lessB x (l.getD j Ar.zero) = false) ∨ ∃ k : Nat, r = k ∧ k < l.length ∧ lessB x (l.getD k Ar.zero) = true ∧ ∀ j, j < k → lessB x (l.getD j Ar.zero) = false) ∧ Below W0.heap.size W0 w') := by
    refine indexF_any 27 _ (lessB x) (by intro args w; go_simp) a l cap W0 (h.below HB0.out) (by omega) fun W y hb => ?_
    have hlt : w.heap.size < W0.heap.size := by rw [HS0.out]; omega
    exact lessX_any x y w.heap.size W (HA0.out.below hb hlt).r (Nat.lt_of_lt_of_le hlt hb.size)
  have HE : Hid (∀ W, Below w.heap.size w W → Calls Try.prog 23 #[.slice a l.length cap, .func (.func 24) #[] #[]] W (EachPost l W)) := fun W hb => each_any a l cap W (h.below hb) (fun y hy => (hm y hy).below hb) (by omega)
  have HLT : Hid (∀ W, Below w.heap.size w W → Calls Try.prog 24 #[.agg x.cells.toArray] W fun e w' => ∃ q c, e = .returned (.agg (x.moved q c).cells.toArray) ∧ MemOK w' (x.moved q c) ∧ MemLo W.heap.size (x.moved q c) ∧ Below W.heap.size W w') := fun W hb => later_any x W (hmx.below hb)
  clear h hm hmx
  unfold arVal
  simp only [Ar.cells] at hW0
  go_enter Try.func20, Try.ntmps20
  go_wp2_with fail
  rw [← hW0]
  clear hW0
  refine HI.out.mono ?_; rintro e w1 ⟨r, rfl, hrc, hb⟩
  have HB1 := Lib.hid (HB0.out.trans (hb.mono HB0.out.size))
  have HA1 : Hid (At w1 w.heap.size x.cells) := HA0.out.below hb (by rw [HS0.out]; omega)
  clear hb HI HA0 HB0
  rcases hrc with ⟨rfl, hno⟩ | ⟨k, rfl, hk, hyes, hno⟩
  · have HPL : Hid (place x l = l.length) := place_miss x l hno
    clear hno
    go_upto_region 4 with (fail)
    refine wp_region_held_drew (S := fun w' => Hid (w'.rangeAt w.heap.size 0 x.cells)) (by kernel_rfl) HA1.out.r (fun hHeld => ?_)
    refine wpAnyH_take (i := 0) (oi := { dst := some 13, op := Op.move (Operand.tmp 0), type := 34, pos := "retry.go:46", after := #[], guard := none }) (v := ?_) rfl (by kernel_rfl) (by kernel_rfl) (by kernel_rfl) (fun _ _ _ h => h) (Or.inl ⟨by rfl, ?_⟩) (by assumption) ?_
    rotate_left
    focus ((intro w hSw; (try dsimp only at hSw); go_simp) <;> (try with_reducible rfl))
    try simp only [Act.put, List.setIfInBounds_toArray, List.set_cons_zero, List.set_cons_succ]
    refine wpAnyH_take (i := 2) (oi := { dst := some 15, op := Op.move (Operand.tmp 5), type := 3, pos := "retry.go:46", after := #[], guard := none }) (v := ?_) rfl (by kernel_rfl) (by kernel_rfl) (by kernel_rfl) (fun _ _ _ h => h) (Or.inl ⟨by rfl, ?_⟩) (by assumption) ?_
    rotate_left
    focus ((intro w hSw; (try dsimp only at hSw); go_simp) <;> (try with_reducible rfl))
    try simp only [Act.put, List.setIfInBounds_toArray, List.set_cons_zero, List.set_cons_succ]
    refine wpAnyH_take (i := 3) (oi := { dst := some 16, op := Op.load 40 (Operand.tmp 3), type := 40, pos := "retry.go:46", after := #[], guard := none }) (v := .agg x.cells.toArray) rfl (by kernel_rfl) (by kernel_rfl) (by kernel_rfl) (fun _ _ _ h => h) (yieldsIf_load_mid (by rfl) 40 _ rfl w.heap.size 0 rfl _ _ (fun w hw => hw.out) Try.underlying40 rfl size40) (by assumption) ?_
    try simp only [Act.put, List.setIfInBounds_toArray, List.set_cons_zero, List.set_cons_succ]
    refine wpAnyH_ready (rs := [1]) (by kernel_rfl) (by simp) ?_
    refine AllReadyH.cons (o := { dst := some 14, op := Op.call { callee := Callee.value (Operand.func 23), args := #[Operand.tmp 13, Operand.func 24], argTypes := #[34, 53] }, type := 34, pos := "retry.go:46", after := #[{ on := 0, ground := Ground.data }], guard := none }) rfl (fun K hK => ?_) AllReadyH.nil
    go_simp
    refine (HE.out w1.drew (HB1.out.drew)).mono ?_; rintro e w2 ⟨a2, c2, l2, rfl, hky, how, hme, hb⟩
    have HA2 : Hid (At w2 w.heap.size x.cells) := (HA1.out.below (Below.drew (Below.refl _ _)) HA1.out.hi).below hb HA1.out.hi
    have HB2 : Hid (Below w.heap.size w w2) := (HB1.out.drew).trans (hb.mono HB1.out.size)
    have HKY := Lib.hid hky
    have HOW := Lib.hid how
    have HME := Lib.hid hme
    have HS2 : Hid (w1.heap.size ≤ w2.heap.size) := hb.size
    clear hky how hme hb HE
    refine hK.out _ _ (HA2.out.r) (fun hHeld => ?_)
    clear hK K
    try simp only [Act.put, List.setIfInBounds_toArray, List.set_cons_zero, List.set_cons_succ]
    refine wpAnyH_ready (rs := [4]) (by kernel_rfl) (by simp) ?_
    refine AllReadyH.cons (o := { dst := some 17, op := Op.call { callee := Callee.value (Operand.func 24), args := #[Operand.tmp 16], argTypes := #[40] }, type := 40, pos := "retry.go:46", after := #[{ on := 3, ground := Ground.data }, { on := 1, ground := Ground.chain }], guard := none }) rfl (fun K hK => ?_) AllReadyH.nil
    go_simp
    refine (HLT.out w2 HB2.out).mono ?_; rintro e w3 ⟨q, c, rfl, hmo, hlo, hb⟩
    have HA3 : Hid (At w3 w.heap.size x.cells) := HA2.out.below hb HA2.out.hi
    have HB3 : Hid (Below w.heap.size w w3) := HB2.out.trans (hb.mono HB2.out.size)
    have HOW3 := Lib.hid (ownsRow_below HOW.out hb)
    have HMO := Lib.hid hmo
    have HLO := Lib.hid hlo
    have HB23 := Lib.hid hb
    clear hmo hlo hb HLT HA2
    refine hK.out _ _ (HA3.out.r) (fun hHeld => ?_)
    clear hK K
    try simp only [Act.put, List.setIfInBounds_toArray, List.set_cons_zero, List.set_cons_succ]
    have HYK : Hid (key (x.moved q c) = key x) := rfl
    generalize x.moved q c = y at *
    obtain ⟨W4, hW4⟩ : ∃ W4, W4 = w3.alloc (Obj.cells y.cells.toArray 40) := ⟨_, rfl⟩
    have HA4 : Hid (At W4 w3.heap.size y.cells) := by rw [hW4]; exact At.new w3 y.cells 40
    have HSH : Hid (Shp W4 w3.heap.size) := by rw [hW4]; exact Shp.new w3 y
    have HB34 : Hid (Below w3.heap.size w3 W4) := by rw [hW4]; exact (Below.refl _ _).alloc (Nat.le_refl _) _
    have HS4 : Hid (W4.heap.size = w3.heap.size + 1) := by rw [hW4]; simp [Hid]
    simp only [Ar.cells] at hW4
    refine wpAnyH_ready (rs := [5]) (by kernel_rfl) (by simp) ?_
    refine AllReadyH.cons (o := { dst := some 18, op := Op.buildSlice 34 1 #[(0, Operand.tmp 17)], type := 34, pos := "retry.go:46", after := #[{ on := 4, ground := Ground.data }], guard := none }) rfl (fun K hK => ?_) AllReadyH.nil
    go_simp
    simp only [Ar.cells]
    go_simp
    rw [← hW4]
    clear hW4
    have HA34 : Hid (W4.rangeAt w.heap.size 0 x.cells) := (HA3.out.below HB34.out HA3.out.hi).r
    refine hK.out _ _ (HA34.out) (fun hHeld => ?_)
    clear hK K
    try simp only [Act.put, List.setIfInBounds_toArray, List.set_cons_zero, List.set_cons_succ]
    have hln : l2.length = l.length := by have := congrArg List.length HKY.out; simpa using this
    have hin := insert_any w1.drew.heap.size a2 c2 (l.length) w3.heap.size l2 y W4 (by rw [hln]; exact ownsRow_below HOW3.out HB34.out) (by have := HS4.out; have := HB23.out.size; have := HS2.out; show w1.heap.size ≤ _; omega) (by omega) (by omega) HA4.out.r HA4.out.hi HSH.out (fun q' hq' => by have h5 : q'.block < w3.heap.size := (by subst hq'; exact (HOW3.out.lt q'.block rfl).2); omega)
    rw [hln] at hin
    have HIN := Lib.hid hin
    clear hln hin
    refine wpAnyH_ready (rs := [6]) (by kernel_rfl) (by simp) ?_
    refine AllReadyH.cons (o := { dst := some 19, op := Op.call { callee := Callee.value (Operand.func 29), args := #[Operand.tmp 14, Operand.tmp 15, Operand.tmp 18], argTypes := #[34, 3, 34] }, type := 34, pos := "retry.go:46", after := #[{ on := 1, ground := Ground.data }, { on := 2, ground := Ground.data }, { on := 5, ground := Ground.data }, { on := 4, ground := Ground.chain }], guard := none }) rfl (fun K hK => ?_) AllReadyH.nil
    go_simp
    refine HIN.out.mono ?_; rintro e w5 hpost
    have HF : Hid (AddPost l x w e w5) := add_end a2 c2 _ l l2 x y w w1 w2 w3 W4 w5 e HPL.out HKY.out HOW.out HME.out HB1.out.size HS2.out HB3.out HB23.out HB34.out HMO.out HLO.out HYK.out hpost
    have HA5 : Hid (w5.rangeAt w.heap.size 0 x.cells) := fun j v hv => by obtain ⟨_, _, _, _, _, hbb⟩ := hpost; exact (hbb.cell (p := ⟨w.heap.size, 0 + j, none⟩) HA1.out.hi).trans (HA34.out j v hv)
    obtain ⟨aR, cR, lR, hRe, hRr⟩ := HF.out
    subst hRe
    clear hRr hpost HIN
    refine hK.out _ _ (HA5.out) (fun hHeld => ?_)
    clear hK K
    try simp only [Act.put, List.setIfInBounds_toArray, List.set_cons_zero, List.set_cons_succ]
    refine wpAnyH_take (i := 7) (oi := { dst := some 4, op := Op.assign (Operand.tmp 19), type := 34, pos := "retry.go:46", after := #[{ on := 6, ground := Ground.data }, { on := 6, ground := Ground.chain }, { on := 0, ground := Ground.phase }, { on := 1, ground := Ground.phase }, { on := 2, ground := Ground.phase }, { on := 3, ground := Ground.phase }, { on := 4, ground := Ground.phase }, { on := 5, ground := Ground.phase }, { on := 6, ground := Ground.phase }], guard := none }) (v := ?_) rfl (by kernel_rfl) (by kernel_rfl) (by kernel_rfl) (fun _ _ _ h => h) (Or.inl ⟨by rfl, ?_⟩) (by assumption) ?_
    rotate_left
    focus ((intro w hSw; (try dsimp only at hSw); go_simp) <;> (try with_reducible rfl))
    try simp only [Act.put, List.setIfInBounds_toArray, List.set_cons_zero, List.set_cons_succ]
    refine wpAnyH_done (by kernel_rfl) ?_ _
    go_wp2_with fail
    go_ret
    exact HF.out
  · have HPL : Hid (place x l = k) := place_hit x l k hk hyes hno
    have hk0 : (0 : Int) ≤ (k : Int) := by omega
    clear hno hyes
    go_upto_region 4 with (fail)
    refine wp_region_held_drew (S := fun w' => Hid (w'.rangeAt w.heap.size 0 x.cells)) (by kernel_rfl) HA1.out.r (fun hHeld => ?_)
    refine wpAnyH_take (i := 0) (oi := { dst := some 13, op := Op.move (Operand.tmp 0), type := 34, pos := "retry.go:46", after := #[], guard := none }) (v := ?_) rfl (by kernel_rfl) (by kernel_rfl) (by kernel_rfl) (fun _ _ _ h => h) (Or.inl ⟨by rfl, ?_⟩) (by assumption) ?_
    rotate_left
    focus ((intro w hSw; (try dsimp only at hSw); go_simp) <;> (try with_reducible rfl))
    try simp only [Act.put, List.setIfInBounds_toArray, List.set_cons_zero, List.set_cons_succ]
    refine wpAnyH_take (i := 2) (oi := { dst := some 15, op := Op.move (Operand.tmp 5), type := 3, pos := "retry.go:46", after := #[], guard := none }) (v := ?_) rfl (by kernel_rfl) (by kernel_rfl) (by kernel_rfl) (fun _ _ _ h => h) (Or.inl ⟨by rfl, ?_⟩) (by assumption) ?_
    rotate_left
    focus ((intro w hSw; (try dsimp only at hSw); go_simp) <;> (try with_reducible rfl))
    try simp only [Act.put, List.setIfInBounds_toArray, List.set_cons_zero, List.set_cons_succ]
    refine wpAnyH_take (i := 3) (oi := { dst := some 16, op := Op.load 40 (Operand.tmp 3), type := 40, pos := "retry.go:46", after := #[], guard := none }) (v := .agg x.cells.toArray) rfl (by kernel_rfl) (by kernel_rfl) (by kernel_rfl) (fun _ _ _ h => h) (yieldsIf_load_mid (by rfl) 40 _ rfl w.heap.size 0 rfl _ _ (fun w hw => hw.out) Try.underlying40 rfl size40) (by assumption) ?_
    try simp only [Act.put, List.setIfInBounds_toArray, List.set_cons_zero, List.set_cons_succ]
    refine wpAnyH_ready (rs := [1]) (by kernel_rfl) (by simp) ?_
    refine AllReadyH.cons (o := { dst := some 14, op := Op.call { callee := Callee.value (Operand.func 23), args := #[Operand.tmp 13, Operand.func 24], argTypes := #[34, 53] }, type := 34, pos := "retry.go:46", after := #[{ on := 0, ground := Ground.data }], guard := none }) rfl (fun K hK => ?_) AllReadyH.nil
    go_simp
    refine (HE.out w1.drew (HB1.out.drew)).mono ?_; rintro e w2 ⟨a2, c2, l2, rfl, hky, how, hme, hb⟩
    have HA2 : Hid (At w2 w.heap.size x.cells) := (HA1.out.below (Below.drew (Below.refl _ _)) HA1.out.hi).below hb HA1.out.hi
    have HB2 : Hid (Below w.heap.size w w2) := (HB1.out.drew).trans (hb.mono HB1.out.size)
    have HKY := Lib.hid hky
    have HOW := Lib.hid how
    have HME := Lib.hid hme
    have HS2 : Hid (w1.heap.size ≤ w2.heap.size) := hb.size
    clear hky how hme hb HE
    refine hK.out _ _ (HA2.out.r) (fun hHeld => ?_)
    clear hK K
    try simp only [Act.put, List.setIfInBounds_toArray, List.set_cons_zero, List.set_cons_succ]
    refine wpAnyH_ready (rs := [4]) (by kernel_rfl) (by simp) ?_
    refine AllReadyH.cons (o := { dst := some 17, op := Op.call { callee := Callee.value (Operand.func 24), args := #[Operand.tmp 16], argTypes := #[40] }, type := 40, pos := "retry.go:46", after := #[{ on := 3, ground := Ground.data }, { on := 1, ground := Ground.chain }], guard := none }) rfl (fun K hK => ?_) AllReadyH.nil
    go_simp
    refine (HLT.out w2 HB2.out).mono ?_; rintro e w3 ⟨q, c, rfl, hmo, hlo, hb⟩
    have HA3 : Hid (At w3 w.heap.size x.cells) := HA2.out.below hb HA2.out.hi
    have HB3 : Hid (Below w.heap.size w w3) := HB2.out.trans (hb.mono HB2.out.size)
    have HOW3 := Lib.hid (ownsRow_below HOW.out hb)
    have HMO := Lib.hid hmo
    have HLO := Lib.hid hlo
    have HB23 := Lib.hid hb
    clear hmo hlo hb HLT HA2
    refine hK.out _ _ (HA3.out.r) (fun hHeld => ?_)
    clear hK K
    try simp only [Act.put, List.setIfInBounds_toArray, List.set_cons_zero, List.set_cons_succ]
    have HYK : Hid (key (x.moved q c) = key x) := rfl
    generalize x.moved q c = y at *
    obtain ⟨W4, hW4⟩ : ∃ W4, W4 = w3.alloc (Obj.cells y.cells.toArray 40) := ⟨_, rfl⟩
    have HA4 : Hid (At W4 w3.heap.size y.cells) := by rw [hW4]; exact At.new w3 y.cells 40
    have HSH : Hid (Shp W4 w3.heap.size) := by rw [hW4]; exact Shp.new w3 y
    have HB34 : Hid (Below w3.heap.size w3 W4) := by rw [hW4]; exact (Below.refl _ _).alloc (Nat.le_refl _) _
    have HS4 : Hid (W4.heap.size = w3.heap.size + 1) := by rw [hW4]; simp [Hid]
    simp only [Ar.cells] at hW4
    refine wpAnyH_ready (rs := [5]) (by kernel_rfl) (by simp) ?_
    refine AllReadyH.cons (o := { dst := some 18, op := Op.buildSlice 34 1 #[(0, Operand.tmp 17)], type := 34, pos := "retry.go:46", after := #[{ on := 4, ground := Ground.data }], guard := none }) rfl (fun K hK => ?_) AllReadyH.nil
    go_simp
    simp only [Ar.cells]
    go_simp
    rw [← hW4]
    clear hW4
    have HA34 : Hid (W4.rangeAt w.heap.size 0 x.cells) := (HA3.out.below HB34.out HA3.out.hi).r
    refine hK.out _ _ (HA34.out) (fun hHeld => ?_)
    clear hK K
    try simp only [Act.put, List.setIfInBounds_toArray, List.set_cons_zero, List.set_cons_succ]
    have hln : l2.length = l.length := by have := congrArg List.length HKY.out; simpa using this
    have hin := insert_any w1.drew.heap.size a2 c2 (k) w3.heap.size l2 y W4 (by rw [hln]; exact ownsRow_below HOW3.out HB34.out) (by have := HS4.out; have := HB23.out.size; have := HS2.out; show w1.heap.size ≤ _; omega) (by omega) (by omega) HA4.out.r HA4.out.hi HSH.out (fun q' hq' => by have h5 : q'.block < w3.heap.size := (by subst hq'; exact (HOW3.out.lt q'.block rfl).2); omega)
    rw [hln] at hin
    have HIN := Lib.hid hin
    clear hln hin
    refine wpAnyH_ready (rs := [6]) (by kernel_rfl) (by simp) ?_
    refine AllReadyH.cons (o := { dst := some 19, op := Op.call { callee := Callee.value (Operand.func 29), args := #[Operand.tmp 14, Operand.tmp 15, Operand.tmp 18], argTypes := #[34, 3, 34] }, type := 34, pos := "retry.go:46", after := #[{ on := 1, ground := Ground.data }, { on := 2, ground := Ground.data }, { on := 5, ground := Ground.data }, { on := 4, ground := Ground.chain }], guard := none }) rfl (fun K hK => ?_) AllReadyH.nil
    go_simp
    refine HIN.out.mono ?_; rintro e w5 hpost
    have HF : Hid (AddPost l x w e w5) := add_end a2 c2 _ l l2 x y w w1 w2 w3 W4 w5 e HPL.out HKY.out HOW.out HME.out HB1.out.size HS2.out HB3.out HB23.out HB34.out HMO.out HLO.out HYK.out hpost
    have HA5 : Hid (w5.rangeAt w.heap.size 0 x.cells) := fun j v hv => by obtain ⟨_, _, _, _, _, hbb⟩ := hpost; exact (hbb.cell (p := ⟨w.heap.size, 0 + j, none⟩) HA1.out.hi).trans (HA34.out j v hv)
    obtain ⟨aR, cR, lR, hRe, hRr⟩ := HF.out
    subst hRe
    clear hRr hpost HIN
    refine hK.out _ _ (HA5.out) (fun hHeld => ?_)
    clear hK K
    try simp only [Act.put, List.setIfInBounds_toArray, List.set_cons_zero, List.set_cons_succ]
    refine wpAnyH_take (i := 7) (oi := { dst := some 4, op := Op.assign (Operand.tmp 19), type := 34, pos := "retry.go:46", after := #[{ on := 6, ground := Ground.data }, { on := 6, ground := Ground.chain }, { on := 0, ground := Ground.phase }, { on := 1, ground := Ground.phase }, { on := 2, ground := Ground.phase }, { on := 3, ground := Ground.phase }, { on := 4, ground := Ground.phase }, { on := 5, ground := Ground.phase }, { on := 6, ground := Ground.phase }], guard := none }) (v := ?_) rfl (by kernel_rfl) (by kernel_rfl) (by kernel_rfl) (fun _ _ _ h => h) (Or.inl ⟨by rfl, ?_⟩) (by assumption) ?_
    rotate_left
    focus ((intro w hSw; (try dsimp only at hSw); go_simp) <;> (try with_reducible rfl))
    try simp only [Act.put, List.setIfInBounds_toArray, List.set_cons_zero, List.set_cons_succ]
    refine wpAnyH_done (by kernel_rfl) ?_ _
    go_wp2_with fail
    go_ret
    exact HF.out
end Go.Proofs.Ythfjlojikbgnfaa
