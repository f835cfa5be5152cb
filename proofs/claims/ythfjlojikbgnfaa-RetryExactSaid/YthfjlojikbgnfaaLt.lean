/- The law's lists: later. -/
import Derived.Test.YthfjlojikbgnfaaBu
namespace Go.Proofs.Ythfjlojikbgnfaa
open Go.ChangeShapes Go.WideShapes Go.ChangeAt Go.RowKit

/-- each bunch comes ahead of those behind it -/
def Ord (l : List Ar) : Prop := l.Pairwise (fun a b => lessB a b = true)
theorem lessB_iff (a b : Ar) : lessB a b = true ↔ (a.tk < b.tk ∨ a.tk = b.tk ∧ a.id < b.id) := by simp [lessB]
theorem place_split (x : Ar) (l : List Ar) : (∀ y ∈ l.take (place x l), lessB x y = false) ∧ (∀ y r, l.drop (place x l) = y :: r → lessB x y = true) := by
  induction l with
  | nil => exact ⟨fun y hy => by simp at hy, fun y r h => by simp at h⟩
  | cons z r ih =>
    unfold place
    by_cases hz : lessB x z = true
    · rw [if_pos hz]
      exact ⟨fun y hy => by simp at hy, fun y r' h => by simp at h; rw [← h.1]; exact hz⟩
    · rw [if_neg hz]
      refine ⟨fun y hy => ?_, fun y r' h => ih.2 y r' (by simpa using h)⟩
      rw [List.take_succ_cons] at hy
      rcases List.mem_cons.1 hy with rfl | hy
      · simpa using hz
      · exact ih.1 y hy
theorem addK_ord (l : List Ar) (x : Ar) (ho : Ord l) (hid : ∀ y ∈ l, y.id ≠ x.id) : Ord (addK l x) := by
  obtain ⟨h1, h2⟩ := place_split x l
  have ht := List.take_append_drop (place x l) l
  have hp : Ord (l.take (place x l) ++ l.drop (place x l)) := by rw [ht]; exact ho
  obtain ⟨p1, p2, p3⟩ := List.pairwise_append.1 hp
  have hd : ∀ y ∈ l.drop (place x l), lessB x y = true := by
    cases hdr : l.drop (place x l) with
    | nil => intro y hy; simp at hy
    | cons z r =>
      intro y hy
      have hz := h2 z r hdr
      rcases List.mem_cons.1 hy with rfl | hy
      · exact hz
      · rw [hdr] at p2
        have := (List.pairwise_cons.1 p2).1 y hy
        rw [lessB_iff] at *
        omega
  unfold addK insAt
  refine List.pairwise_append.2 ⟨p1, List.pairwise_cons.2 ⟨hd, p2⟩, fun a ha b hb => ?_⟩
  have hax : lessB a x = true := by
    have h3 := h1 a ha
    have h4 := hid a (List.mem_of_mem_take ha)
    rw [lessB_iff]
    have h5 : ¬ (x.tk < a.tk ∨ x.tk = a.tk ∧ x.id < a.id) := fun h => by rw [← lessB_iff] at h; rw [h] at h3; cases h3
    omega
  rcases List.mem_cons.1 hb with rfl | hb
  · exact hax
  · exact p3 a ha b hb
theorem ord_key (l : List Ar) : Ord (l.map key) ↔ Ord l := List.pairwise_map
theorem mem_addK {l : List Ar} {x y : Ar} (h : y ∈ addK l x) : y ∈ l ∨ y = x := by
  rcases mem_insAt h with h | h
  · exact Or.inl h
  · exact Or.inr h
theorem addK_len (l : List Ar) (x : Ar) : (addK l x).length = l.length + 1 := by
  have := place_le x l
  simp [addK, insAt]; omega
/-- what the law's lists are: ordered, of distinct even ids, with ticks from 0 to 8 -/
structure Lst (w : World) (n : Nat) (l : List Ar) : Prop where
  len : l.length = n
  ord : Ord l
  ids : ∀ y ∈ l, y.id < 2 * n
  tks : ∀ y ∈ l, 0 ≤ y.tk ∧ y.tk < 9
  mem : ∀ y ∈ l, MemOK w y
theorem Lst.add {w w' : World} {n : Nat} {l l' : List Ar} {x : Ar} (h : Lst w n l) (hk : l'.map key = addK (l.map key) (key x)) (hid : x.id = 2 * (n : Int)) (ht : 0 ≤ x.tk ∧ x.tk < 9) (hm : ∀ y ∈ l', MemOK w' y) : Lst w' (n + 1) l' := by
  have hmem : ∀ y ∈ l', (∃ z ∈ l, key y = key z) ∨ key y = key x := fun y hy => by
    have h1 : key y ∈ l'.map key := List.mem_map.2 ⟨y, hy, rfl⟩
    rw [hk] at h1
    rcases mem_addK h1 with h1 | h1
    · obtain ⟨z, hz, e⟩ := List.mem_map.1 h1
      exact Or.inl ⟨z, hz, e.symm⟩
    · exact Or.inr h1
  have kid : ∀ {a b : Ar}, key a = key b → a.id = b.id := fun {a b} e => (congrArg Ar.id e : (key a).id = (key b).id)
  have ktk : ∀ {a b : Ar}, key a = key b → a.tk = b.tk := fun {a b} e => (congrArg Ar.tk e : (key a).tk = (key b).tk)
  refine ⟨?_, ?_, fun y hy => ?_, fun y hy => ?_, hm⟩
  · have := congrArg List.length hk
    rw [addK_len] at this
    simp at this
    rw [this, h.len]
  · rw [← ord_key, hk]
    refine addK_ord _ _ ((ord_key l).2 h.ord) fun y hy => ?_
    obtain ⟨z, hz, rfl⟩ := List.mem_map.1 hy
    have := h.ids z hz
    show z.id ≠ x.id
    omega
  · rcases hmem y hy with ⟨z, hz, e⟩ | e
    · have := h.ids z hz; have := kid e; omega
    · have := kid e; omega
  · rcases hmem y hy with ⟨z, hz, e⟩ | e
    · have := h.tks z hz; have := ktk e; omega
    · have := ktk e; omega
theorem Lst.below {w w' : World} {n : Nat} {l : List Ar} (h : Lst w n l) (hb : Below w.heap.size w w') : Lst w' n l := ⟨h.len, h.ord, h.ids, h.tks, fun y hy => (h.mem y hy).below hb⟩
theorem arow_own {w : World} {B n k : Nat} {a : Option Addr} {c : Nat} {l l2 : List Ar} (h : w.ownsRow B 40 11 (.slice a (l.length + 1) c) (l.length + 1) (flat l2)) (h1 : l2.length = k + 1) (h2 : l.length = n) : ARow w a c l2 := by
  obtain ⟨a', c', he, _, hr, _⟩ := ARow.ofOwn h
  simp only [Value.slice.injEq] at he
  obtain ⟨rfl, _, rfl⟩ := he
  exact hr
def LaterPost (len : Nat) (w : World) (e : Ending) (w' : World) : Prop :=
  ∃ a c l, e = .returned (.slice a (min 8 len) c) ∧ Lst w' (min 8 len) l ∧ ARow w' a c l ∧ Below w.heap.size w w'

set_option maxHeartbeats 2000000 in
theorem llater_any (a : Option Addr) (len cap : Nat) (w : World) (h : ArgRow w a len) (hlm : len ≤ maxLen) :
    Calls Try.prog 11 #[.slice a len cap] w (LaterPost len w) := by
  have hlm2 : (len : Int) ≤ 9223372036854775807 := by unfold maxLen at hlm; omega
  clear hlm
  have HA := Lib.hid h
  clear h
  go_enter Try.func11, Try.ntmps11
  go_wp2_with fail
  go_loopw [3, 4] (fun v3 v4 wr => ∃ (k : Nat) (b : Option Addr) (c : Nat) (l : List Ar), k ≤ len ∧ k ≤ 8 ∧ v3 = .slice b k c ∧ v4 = .int .i64 k ∧ Hid (Lst wr k l) ∧ Hid (ARow wr b c l) ∧ Hid (Below w.heap.size w wr)) (fun _ v4 _ => 20 - (intOf v4).toNat)
  case atStart => exact ⟨0, none, 0, [], by omega, by omega, rfl, rfl, ⟨rfl, List.Pairwise.nil, (fun y hy => by cases hy), (fun y hy => by cases hy), fun y hy => by cases hy⟩, Or.inl ⟨rfl, rfl, rfl⟩, Below.refl _ _⟩
  case round =>
    obtain ⟨k, b, c, l, hk, hk8, rfl, rfl, HL, HR, HB⟩ := hrel
    by_cases hlt : k < len
    · have hlt' : (k : Int) < (len : Int) := by omega
      by_cases h8 : k < 8
      · have h8' : (k : Int) < 8 := by omega
        obtain ⟨g, o, z, rfl, hg, hz⟩ := HA.out.at HB.out k hlt
        go_upto_region 5 with (fail)
        refine wp_region_held_drew (S := fun w' => w'.cell? ⟨g, o + k, none⟩ = some (.int .i64 z)) (by kernel_rfl) (by (try dsimp only); go_keep) (fun hHeld => ?_)
        refine wpAnyH_take (i := 0) (oi := { dst := some 15, op := Op.move (Operand.tmp 3), type := 34, pos := "law.go:49", after := #[], guard := none }) (v := ?_) rfl (by kernel_rfl) (by kernel_rfl) (by kernel_rfl) (fun _ _ _ h => h) (Or.inl ⟨by rfl, ?_⟩) (by assumption) ?_
        rotate_left
        focus ((intro w hSw; (try dsimp only at hSw); go_simp) <;> (try with_reducible rfl))
        try simp only [Act.put, List.setIfInBounds_toArray, List.set_cons_zero, List.set_cons_succ]
        refine wpAnyH_take (i := 1) (oi := { dst := some 16, op := Op.move (Operand.tmp 0), type := 33, pos := "law.go:49", after := #[], guard := none }) (v := ?_) rfl (by kernel_rfl) (by kernel_rfl) (by kernel_rfl) (fun _ _ _ h => h) (Or.inl ⟨by rfl, ?_⟩) (by assumption) ?_
        rotate_left
        focus ((intro w hSw; (try dsimp only at hSw); go_simp) <;> (try with_reducible rfl))
        try simp only [Act.put, List.setIfInBounds_toArray, List.set_cons_zero, List.set_cons_succ]
        refine wpAnyH_take (i := 2) (oi := { dst := some 17, op := Op.move (Operand.tmp 4), type := 3, pos := "law.go:49", after := #[], guard := none }) (v := ?_) rfl (by kernel_rfl) (by kernel_rfl) (by kernel_rfl) (fun _ _ _ h => h) (Or.inl ⟨by rfl, ?_⟩) (by assumption) ?_
        rotate_left
        focus ((intro w hSw; (try dsimp only at hSw); go_simp) <;> (try with_reducible rfl))
        try simp only [Act.put, List.setIfInBounds_toArray, List.set_cons_zero, List.set_cons_succ]
        refine wpAnyH_take (i := 3) (oi := { dst := some 18, op := Op.indexAddr 33 (Operand.tmp 16) (Operand.tmp 17), type := 0, pos := "law.go:49", after := #[{ on := 1, ground := Ground.data }, { on := 2, ground := Ground.data }], guard := none }) (v := ?_) rfl (by kernel_rfl) (by kernel_rfl) (by kernel_rfl) (fun _ _ _ h => h) (Or.inl ⟨by rfl, ?_⟩) (by assumption) ?_
        rotate_left
        focus ((intro w hSw; (try dsimp only at hSw); go_simp) <;> (try with_reducible rfl))
        try simp only [Act.put, List.setIfInBounds_toArray, List.set_cons_zero, List.set_cons_succ]
        refine wpAnyH_take (i := 4) (oi := { dst := some 19, op := Op.load 3 (Operand.tmp 18), type := 3, pos := "law.go:49", after := #[{ on := 3, ground := Ground.data }], guard := none }) (v := ?_) rfl (by kernel_rfl) (by kernel_rfl) (by kernel_rfl) (fun _ _ _ h => h) (Or.inl ⟨by rfl, ?_⟩) (by assumption) ?_
        rotate_left
        focus ((intro w hSw; (try dsimp only at hSw); go_simp) <;> (try with_reducible rfl))
        try simp only [Act.put, List.setIfInBounds_toArray, List.set_cons_zero, List.set_cons_succ]
        refine wpAnyH_take (i := 5) (oi := { dst := some 20, op := Op.move (Operand.tmp 4), type := 3, pos := "law.go:49", after := #[], guard := none }) (v := ?_) rfl (by kernel_rfl) (by kernel_rfl) (by kernel_rfl) (fun _ _ _ h => h) (Or.inl ⟨by rfl, ?_⟩) (by assumption) ?_
        rotate_left
        focus ((intro w hSw; (try dsimp only at hSw); go_simp) <;> (try with_reducible rfl))
        try simp only [Act.put, List.setIfInBounds_toArray, List.set_cons_zero, List.set_cons_succ]
        refine wpAnyH_take (i := 7) (oi := { dst := some 22, op := Op.move (Operand.tmp 0), type := 33, pos := "law.go:49", after := #[], guard := none }) (v := ?_) rfl (by kernel_rfl) (by kernel_rfl) (by kernel_rfl) (fun _ _ _ h => h) (Or.inl ⟨by rfl, ?_⟩) (by assumption) ?_
        rotate_left
        focus ((intro w hSw; (try dsimp only at hSw); go_simp) <;> (try with_reducible rfl))
        try simp only [Act.put, List.setIfInBounds_toArray, List.set_cons_zero, List.set_cons_succ]
        refine wpAnyH_take (i := 8) (oi := { dst := some 23, op := Op.move (Operand.tmp 4), type := 3, pos := "law.go:49", after := #[], guard := none }) (v := ?_) rfl (by kernel_rfl) (by kernel_rfl) (by kernel_rfl) (fun _ _ _ h => h) (Or.inl ⟨by rfl, ?_⟩) (by assumption) ?_
        rotate_left
        focus ((intro w hSw; (try dsimp only at hSw); go_simp) <;> (try with_reducible rfl))
        try simp only [Act.put, List.setIfInBounds_toArray, List.set_cons_zero, List.set_cons_succ]
        refine wpAnyH_take (i := 9) (oi := { dst := some 24, op := Op.indexAddr 33 (Operand.tmp 22) (Operand.tmp 23), type := 0, pos := "law.go:49", after := #[{ on := 7, ground := Ground.data }, { on := 8, ground := Ground.data }], guard := none }) (v := ?_) rfl (by kernel_rfl) (by kernel_rfl) (by kernel_rfl) (fun _ _ _ h => h) (Or.inl ⟨by rfl, ?_⟩) (by assumption) ?_
        rotate_left
        focus ((intro w hSw; (try dsimp only at hSw); go_simp) <;> (try with_reducible rfl))
        try simp only [Act.put, List.setIfInBounds_toArray, List.set_cons_zero, List.set_cons_succ]
        refine wpAnyH_take (i := 10) (oi := { dst := some 25, op := Op.load 3 (Operand.tmp 24), type := 3, pos := "law.go:49", after := #[{ on := 9, ground := Ground.data }], guard := none }) (v := ?_) rfl (by kernel_rfl) (by kernel_rfl) (by kernel_rfl) (fun _ _ _ h => h) (Or.inl ⟨by rfl, ?_⟩) (by assumption) ?_
        rotate_left
        focus ((intro w hSw; (try dsimp only at hSw); go_simp) <;> (try with_reducible rfl))
        try simp only [Act.put, List.setIfInBounds_toArray, List.set_cons_zero, List.set_cons_succ]
        refine wpAnyH_take (i := 11) (oi := { dst := some 26, op := Op.binOp BinOp.shr 3 (Operand.tmp 25) (Operand.const (Value.int IntKind.u64 5)) 23, type := 3, pos := "law.go:49", after := #[{ on := 10, ground := Ground.data }], guard := none }) (v := ?_) rfl (by kernel_rfl) (by kernel_rfl) (by kernel_rfl) (fun _ _ _ h => h) (Or.inl ⟨by rfl, ?_⟩) (by assumption) ?_
        rotate_left
        focus ((intro w hSw; (try dsimp only at hSw); go_simp) <;> (try with_reducible rfl))
        try simp only [Act.put, List.setIfInBounds_toArray, List.set_cons_zero, List.set_cons_succ]
        refine wpAnyH_take (i := 13) (oi := { dst := some 28, op := Op.move (Operand.tmp 0), type := 33, pos := "law.go:49", after := #[], guard := none }) (v := ?_) rfl (by kernel_rfl) (by kernel_rfl) (by kernel_rfl) (fun _ _ _ h => h) (Or.inl ⟨by rfl, ?_⟩) (by assumption) ?_
        rotate_left
        focus ((intro w hSw; (try dsimp only at hSw); go_simp) <;> (try with_reducible rfl))
        try simp only [Act.put, List.setIfInBounds_toArray, List.set_cons_zero, List.set_cons_succ]
        refine wpAnyH_take (i := 14) (oi := { dst := some 29, op := Op.move (Operand.tmp 4), type := 3, pos := "law.go:49", after := #[], guard := none }) (v := ?_) rfl (by kernel_rfl) (by kernel_rfl) (by kernel_rfl) (fun _ _ _ h => h) (Or.inl ⟨by rfl, ?_⟩) (by assumption) ?_
        rotate_left
        focus ((intro w hSw; (try dsimp only at hSw); go_simp) <;> (try with_reducible rfl))
        try simp only [Act.put, List.setIfInBounds_toArray, List.set_cons_zero, List.set_cons_succ]
        refine wpAnyH_take (i := 15) (oi := { dst := some 30, op := Op.indexAddr 33 (Operand.tmp 28) (Operand.tmp 29), type := 0, pos := "law.go:49", after := #[{ on := 13, ground := Ground.data }, { on := 14, ground := Ground.data }], guard := none }) (v := ?_) rfl (by kernel_rfl) (by kernel_rfl) (by kernel_rfl) (fun _ _ _ h => h) (Or.inl ⟨by rfl, ?_⟩) (by assumption) ?_
        rotate_left
        focus ((intro w hSw; (try dsimp only at hSw); go_simp) <;> (try with_reducible rfl))
        try simp only [Act.put, List.setIfInBounds_toArray, List.set_cons_zero, List.set_cons_succ]
        refine wpAnyH_take (i := 16) (oi := { dst := some 31, op := Op.load 3 (Operand.tmp 30), type := 3, pos := "law.go:49", after := #[{ on := 15, ground := Ground.data }], guard := none }) (v := ?_) rfl (by kernel_rfl) (by kernel_rfl) (by kernel_rfl) (fun _ _ _ h => h) (Or.inl ⟨by rfl, ?_⟩) (by assumption) ?_
        rotate_left
        focus ((intro w hSw; (try dsimp only at hSw); go_simp) <;> (try with_reducible rfl))
        try simp only [Act.put, List.setIfInBounds_toArray, List.set_cons_zero, List.set_cons_succ]
        refine wpAnyH_take (i := 17) (oi := { dst := some 32, op := Op.binOp BinOp.shr 3 (Operand.tmp 31) (Operand.const (Value.int IntKind.u64 9)) 23, type := 3, pos := "law.go:49", after := #[{ on := 16, ground := Ground.data }], guard := none }) (v := ?_) rfl (by kernel_rfl) (by kernel_rfl) (by kernel_rfl) (fun _ _ _ h => h) (Or.inl ⟨by rfl, ?_⟩) (by assumption) ?_
        rotate_left
        focus ((intro w hSw; (try dsimp only at hSw); go_simp) <;> (try with_reducible rfl))
        try simp only [Act.put, List.setIfInBounds_toArray, List.set_cons_zero, List.set_cons_succ]
        refine wpAnyH_ready (rs := [6]) (by kernel_rfl) (by simp) ?_
        refine AllReadyH.cons (o := { dst := some 21, op := Op.call { callee := Callee.value (Operand.func 22), args := #[Operand.tmp 19, Operand.tmp 20], argTypes := #[3, 3] }, type := 38, pos := "law.go:49", after := #[{ on := 4, ground := Ground.data }, { on := 5, ground := Ground.data }], guard := none }) rfl (fun K hK => ?_) AllReadyH.nil
        go_simp
        (first | (go_at_call 22; refine (dbunch_any _ _ _ (by omega) (by omega)).mono ?_; rintro e w2 ⟨bb, rfl, hid, hmo, hb⟩; have HBid := Lib.hid hid; have HMO := Lib.hid hmo; have HB2 : Hid (Below w.heap.size w w2) := (Below.drew HB.out).trans (hb.mono HB.out.size); have HL2 := Lib.hid ((HL.out.below (Below.drew (Below.refl _ _))).below hb); have HR2 := Lib.hid ((HR.out.below (Below.drew (Below.refl _ _))).below hb); have hz2 := (hb.cell (p := ⟨g, o + k, none⟩) (Nat.lt_of_lt_of_le hg HB.out.size)).trans hz; clear hb hid hmo HL HR; simp only [bVal]))
        go_wp2_with fail
        refine hK.out _ _ (by (try dsimp only); go_keep) (fun hHeld => ?_)
        clear hK K
        try simp only [Act.put, List.setIfInBounds_toArray, List.set_cons_zero, List.set_cons_succ]
        refine wpAnyH_ready (rs := [12]) (by kernel_rfl) (by simp) ?_
        refine AllReadyH.cons (o := { dst := some 27, op := Op.call { callee := Callee.value (Operand.func 8), args := #[Operand.tmp 26, Operand.const (Value.int IntKind.i64 9)], argTypes := #[3, 3] }, type := 3, pos := "law.go:49", after := #[{ on := 11, ground := Ground.data }, { on := 6, ground := Ground.chain }], guard := none }) rfl (fun K hK => ?_) AllReadyH.nil
        go_simp
        (first | (go_at_call 8; refine (round_some _ _ _ (by omega) (by omega)).mono ?_; rintro e wq ⟨r1, r10, r11, rfl, rfl⟩))
        go_wp2_with fail
        refine hK.out _ _ (by (try dsimp only); go_keep) (fun hHeld => ?_)
        clear hK K
        try simp only [Act.put, List.setIfInBounds_toArray, List.set_cons_zero, List.set_cons_succ]
        refine wpAnyH_ready (rs := [18]) (by kernel_rfl) (by simp) ?_
        refine AllReadyH.cons (o := { dst := some 33, op := Op.call { callee := Callee.value (Operand.func 8), args := #[Operand.tmp 32, Operand.const (Value.int IntKind.i64 3)], argTypes := #[3, 3] }, type := 3, pos := "law.go:49", after := #[{ on := 17, ground := Ground.data }, { on := 12, ground := Ground.chain }], guard := none }) rfl (fun K hK => ?_) AllReadyH.nil
        go_simp
        (first | (go_at_call 8; refine (round_some _ _ _ (by omega) (by omega)).mono ?_; rintro e wq ⟨r2, r20, r21, rfl, rfl⟩; have hadd := add_any b l c ⟨bb.id, bb.ten, bb.kd, bb.sec, bb.cnt, bb.dat, bb.fua, bb.ma, bb.ml, bb.mc, bb.tm, r1, r2, bb.mem⟩ w2 HR2.out HL2.out.mem HMO.out (by have := HL2.out.len; omega); rw [HL2.out.len] at hadd; have HADD : Hid (Calls Try.prog 20 #[.slice b k c, .agg #[.int .i64 bb.id, .int .i64 bb.ten, .int .i64 bb.kd, .int .i64 bb.sec, .int .i64 bb.cnt, .string bb.dat, .bool bb.fua, .slice bb.ma bb.ml bb.mc, .int .i64 bb.tm, .int .i64 r1, .int .i64 r2]] w2 (AddPost l ⟨bb.id, bb.ten, bb.kd, bb.sec, bb.cnt, bb.dat, bb.fua, bb.ma, bb.ml, bb.mc, bb.tm, r1, r2, bb.mem⟩ w2)) := hadd; clear hadd))
        go_wp2_with fail
        refine hK.out _ _ (by (try dsimp only); go_keep) (fun hHeld => ?_)
        clear hK K
        try simp only [Act.put, List.setIfInBounds_toArray, List.set_cons_zero, List.set_cons_succ]
        refine wpAnyH_take (i := 19) (oi := { dst := some 34, op := Op.build 40 #[(0, Operand.tmp 21), (1, Operand.tmp 27), (2, Operand.tmp 33)], type := 40, pos := "law.go:49", after := #[{ on := 6, ground := Ground.data }, { on := 12, ground := Ground.data }, { on := 18, ground := Ground.data }], guard := none }) (v := ?_) rfl (by kernel_rfl) (by kernel_rfl) (by kernel_rfl) (fun _ _ _ h => h) (Or.inl ⟨by rfl, ?_⟩) (by assumption) ?_
        rotate_left
        focus ((intro w hSw; (try dsimp only at hSw); go_simp) <;> (try with_reducible rfl))
        try simp only [Act.put, List.setIfInBounds_toArray, List.set_cons_zero, List.set_cons_succ]
        refine wpAnyH_ready (rs := [20]) (by kernel_rfl) (by simp) ?_
        refine AllReadyH.cons (o := { dst := some 35, op := Op.call { callee := Callee.value (Operand.func 20), args := #[Operand.tmp 15, Operand.tmp 34], argTypes := #[34, 40] }, type := 34, pos := "law.go:49", after := #[{ on := 0, ground := Ground.data }, { on := 19, ground := Ground.data }, { on := 18, ground := Ground.chain }], guard := none }) rfl (fun K hK => ?_) AllReadyH.nil
        go_simp
        (first | (go_at_call 20; refine HADD.out.mono ?_; rintro e w3 ⟨a3, c3, l3, rfl, hky, how, hme, hb⟩; have hz3 := (hb.cell (p := ⟨g, o + k, none⟩) (show g < w2.heap.size by have := HB2.out.size; omega)).trans hz2; have HL3 : Hid (Lst w3 (k + 1) l3) := HL2.out.add (x := ⟨bb.id, bb.ten, bb.kd, bb.sec, bb.cnt, bb.dat, bb.fua, bb.ma, bb.ml, bb.mc, bb.tm, r1, r2, bb.mem⟩) hky (by have := HBid.out; exact this) ⟨r10, r11⟩ (fun y hy => (hme y hy).1); have HR3 : Hid (ARow w3 a3 c3 l3) := arow_own how HL3.out.len HL2.out.len; have HB3 := Lib.hid (HB2.out.trans (hb.mono HB2.out.size)); have HLL := Lib.hid HL2.out.len; clear hky how hme hb))
        go_wp2_with fail
        refine hK.out _ _ (by (try dsimp only); go_keep) (fun hHeld => ?_)
        clear hK K
        try simp only [Act.put, List.setIfInBounds_toArray, List.set_cons_zero, List.set_cons_succ]
        refine wpAnyH_take (i := 21) (oi := { dst := some 3, op := Op.assign (Operand.tmp 35), type := 34, pos := "law.go:49", after := #[{ on := 20, ground := Ground.data }, { on := 20, ground := Ground.chain }, { on := 0, ground := Ground.phase }, { on := 1, ground := Ground.phase }, { on := 2, ground := Ground.phase }, { on := 3, ground := Ground.phase }, { on := 4, ground := Ground.phase }, { on := 5, ground := Ground.phase }, { on := 6, ground := Ground.phase }, { on := 7, ground := Ground.phase }, { on := 8, ground := Ground.phase }, { on := 9, ground := Ground.phase }, { on := 10, ground := Ground.phase }, { on := 11, ground := Ground.phase }, { on := 12, ground := Ground.phase }, { on := 13, ground := Ground.phase }, { on := 14, ground := Ground.phase }, { on := 15, ground := Ground.phase }, { on := 16, ground := Ground.phase }, { on := 17, ground := Ground.phase }, { on := 18, ground := Ground.phase }, { on := 19, ground := Ground.phase }, { on := 20, ground := Ground.phase }], guard := none }) (v := ?_) rfl (by kernel_rfl) (by kernel_rfl) (by kernel_rfl) (fun _ _ _ h => h) (Or.inl ⟨by rfl, ?_⟩) (by assumption) ?_
        rotate_left
        focus ((intro w hSw; (try dsimp only at hSw); go_simp) <;> (try with_reducible rfl))
        try simp only [Act.put, List.setIfInBounds_toArray, List.set_cons_zero, List.set_cons_succ]
        refine wpAnyH_done (by kernel_rfl) ?_ _
        go_wp2_with fail
        go_roundw
        case rel => exact ⟨k + 1, a3, c3, l3, by omega, by omega, by rw [HLL.out], by go_num, HL3, HR3, HB3⟩
        case measure => simp [intOf]; omega
      · have hk9 : k = 8 := by omega
        subst hk9
        have hm : min 8 len = 8 := by omega
        go_wp2_with fail
        go_ret
        exact ⟨b, c, l, by rw [hm]; rfl, by rw [hm]; exact HL.out, HR.out, HB.out⟩
    · obtain rfl : k = len := by omega
      have hm : min 8 k = k := by omega
      go_wp2_with fail
      go_ret
      exact ⟨b, c, l, by rw [hm]; rfl, by rw [hm]; exact HL.out, HR.out, HB.out⟩
end Go.Proofs.Ythfjlojikbgnfaa
