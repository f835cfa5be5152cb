/- Bunches and lists among the arguments, opened. -/
import Derived.Test.YthfjlojikbgnfaaSl
namespace Go.Proofs.Ythfjlojikbgnfaa
open Go.ChangeShapes Go.WideShapes Go.ChangeAt Go.RowKit

theorem range_flat {α : Type} (cf : α → List Value) (k : Nat) (hcf : ∀ y, (cf y).length = k) (W : World) (g : Nat) : ∀ (ys : List α) (o : Nat), (∀ (i : Nat) (y : α), ys[i]? = some y → W.rangeAt g (o + i * k) (cf y)) → W.rangeAt g o (ys.flatMap cf)
  | [], o, _ => fun j v h => by simp at h
  | y :: r, o, h => fun j v hj => by
    rw [List.flatMap_cons] at hj
    by_cases hlt : j < k
    · rw [List.getElem?_append_left (by rw [hcf]; exact hlt)] at hj
      have := h 0 y rfl j v hj
      simpa using this
    · rw [List.getElem?_append_right (by rw [hcf]; omega), hcf] at hj
      have := range_flat cf k hcf W g r (o + k) (fun i z hz => by
        have := h (i + 1) z hz
        rwa [show o + (i + 1) * k = o + k + i * k from by rw [Nat.succ_mul]; omega] at this) (j - k) v hj
      rwa [show o + k + (j - k) = o + j from by omega] at this
theorem add_add (a : Addr) (i j : Nat) : (a.add i).add j = a.add (i + j) := by
  unfold Addr.add
  split <;> split <;> (try split) <;> simp_all <;> omega
theorem add_spot {a : Addr} (h : a.spot = none) (i : Nat) : a.add i = ⟨a.block, a.off + i, none⟩ := by
  obtain ⟨b, o, sp⟩ := a
  simp only at h
  subst h
  exact Addr.add_lit b o i
theorem open_row {α : Type} (cf : α → List Value) (k : Nat) (hk : 0 < k) (hcf : ∀ y, (cf y).length = k) {H : Type} {enc : TypeId × Value → H} {W : World} {base : Nat} {sp : Nat → Bool} {held : Bool} {t e : TypeId} (ht : Try.prog.underlying t = some (.slice e)) (hc : Try.prog.cellsOf e = k) (G : α → DataW H → Prop)
    (hel : ∀ n l x, DataW.trod enc Try.prog W base sp held n e l = some x → ∃ y, l = cf y ∧ G y x.1) {fuel : Nat} {cs : List Value} {x : DataW H × List MemPlace} (hs : ∀ b, sp b = true) (h : DataW.trod enc Try.prog W base sp held fuel t cs = some x) :
    (cs = [.slice none 0 0] ∧ x.1 = .nil) ∨ ∃ (a : Addr) (cap : Nat) (ys : List α) (elems rest : List (DataW H)), cs = [.slice (some a) ys.length cap] ∧ x.1 = .slice elems rest ∧ ys.length ≤ cap ∧ cap ≤ maxLen ∧ elems.length + rest.length = cap ∧
      (∀ (i : Nat) (y : α), ys[i]? = some y → ∃ d, elems[i]? = some d ∧ G y d) ∧ (cap = 0 ∨ ∃ g o, a = ⟨g, o, none⟩ ∧ g < W.heap.size) ∧ W.rangeAt a.block a.off (ys.flatMap cf) := by
  rcases DataW.trod_slice ht h with ⟨h1, h2⟩ | ⟨a, len, cap, elems, rest, n, _, rfl, rfl, hb, hl, hm, hlen, hel0, hsp, hns⟩
  · exact Or.inl ⟨h1, by rw [h2]⟩
  right
  rw [hc] at hel0 hsp
  obtain ⟨hr1, hr2⟩ := hsp (hs _)
  have each : ∀ i, i < len → ∃ y d, elems[i]? = some d ∧ G y d.1 ∧ a.spot = none ∧ a.block < W.heap.size ∧ W.rangeAt a.block (a.off + i * k) (cf y) := by
    intro i hi
    obtain ⟨d, hd⟩ : ∃ d, elems[i]? = some d := ⟨_, List.getElem?_eq_getElem (by omega)⟩
    have h1 := (hel0 i hi).trans hd
    rw [Option.bind_eq_some_iff] at h1
    obtain ⟨cs', h2, h3⟩ := h1
    obtain ⟨y, rfl, hg⟩ := hel _ _ _ h3
    obtain ⟨_, _, h4⟩ := World.cells?_some h2
    have h5 : ∀ j v, (cf y)[j]? = some v → W.cell? (a.add (i * k + j)) = some v := fun j v hv => by
      rw [← add_add, h4 j (by rw [← hcf y]; exact (List.getElem?_eq_some_iff.1 hv).1)]; exact hv
    obtain ⟨v0, hv0⟩ : ∃ v, (cf y)[0]? = some v := ⟨_, List.getElem?_eq_getElem (by rw [hcf]; exact hk)⟩
    have h6 := h5 0 v0 hv0
    have hsp : a.spot = none := by
      have := World.cell?_spot h6
      unfold Addr.add at this
      split at this
      · exact this
      · rename_i hz
        -- the first element has its spot, too
        have hi0 : 0 < i := by
          rcases Nat.eq_zero_or_pos i with h | h
          · subst h; simp at hz
          · exact h
        obtain ⟨d0, hd0⟩ : ∃ d, elems[0]? = some d := ⟨_, List.getElem?_eq_getElem (by omega)⟩
        have g1 := (hel0 0 (by omega)).trans hd0
        rw [Option.bind_eq_some_iff] at g1
        obtain ⟨cs0, g2, g3⟩ := g1
        obtain ⟨y0, rfl, _⟩ := hel _ _ _ g3
        obtain ⟨_, _, g4⟩ := World.cells?_some g2
        obtain ⟨u0, hu0⟩ : ∃ v, (cf y0)[0]? = some v := ⟨_, List.getElem?_eq_getElem (by rw [hcf]; exact hk)⟩
        have g6 := (g4 0 hk).trans hu0
        simpa [Addr.add] using World.cell?_spot g6
    refine ⟨y, d, hd, hg, hsp, ?_, fun j v hv => ?_⟩
    · have := World.block_lt_of_cell? _ _ h6
      rwa [add_spot hsp] at this
    · have := h5 j v hv
      rwa [add_spot hsp, ← Nat.add_assoc] at this
  have eachR : ∀ j, j < cap - len → a.spot = none ∧ a.block < W.heap.size := by
    intro j hj
    by_cases h0 : 0 < len
    · obtain ⟨_, _, _, _, h1, h2, _⟩ := each 0 h0
      exact ⟨h1, h2⟩
    obtain ⟨d0, hd0⟩ : ∃ d, rest[0]? = some d := ⟨_, List.getElem?_eq_getElem (by omega)⟩
    have g1 := (hr2 0 (by omega)).trans hd0
    rw [Option.bind_eq_some_iff] at g1
    obtain ⟨cs0, g2, g3⟩ := g1
    obtain ⟨y0, rfl, _⟩ := hel _ _ _ g3
    obtain ⟨_, _, g4⟩ := World.cells?_some g2
    obtain ⟨u0, hu0⟩ : ∃ v, (cf y0)[0]? = some v := ⟨_, List.getElem?_eq_getElem (by rw [hcf]; exact hk)⟩
    have g6 := (g4 0 hk).trans hu0
    rw [show len + 0 = 0 from by omega, Nat.zero_mul] at g6
    have e1 : a.spot = none := by simpa [Addr.add] using World.cell?_spot g6
    refine ⟨e1, ?_⟩
    have := World.block_lt_of_cell? _ _ g6
    rwa [add_spot e1] at this
  have each2 : ∀ i : Fin len, ∃ y, (∃ d, elems[i.val]? = some d ∧ G y d.1) ∧ W.rangeAt a.block (a.off + i.val * k) (cf y) := fun i => by
    obtain ⟨y, d, h1, h2, _, _, h3⟩ := each i.val i.isLt
    exact ⟨y, ⟨d, h1, h2⟩, h3⟩
  let f : Fin len → α := fun i => Classical.choose (each2 i)
  have hf : ∀ i : Fin len, (∃ d, elems[i.val]? = some d ∧ G (f i) d.1) ∧ W.rangeAt a.block (a.off + i.val * k) (cf (f i)) := fun i => Classical.choose_spec (each2 i)
  have hy : ∀ (i : Nat) (y : α), (List.ofFn f)[i]? = some y → ∃ h : i < len, y = f ⟨i, h⟩ := fun i y h => by
    rw [List.getElem?_eq_some_iff] at h
    obtain ⟨h1, h2⟩ := h
    rw [List.length_ofFn] at h1
    exact ⟨h1, by rw [← h2, List.getElem_ofFn]⟩
  refine ⟨a, cap, List.ofFn f, elems.map (·.1), rest.map (·.1), by rw [List.length_ofFn], rfl, by rw [List.length_ofFn]; exact hl, hm, by simp; omega, ?_, ?_, ?_⟩
  · intro i y h
    obtain ⟨h1, rfl⟩ := hy i y h
    obtain ⟨⟨d, hd, hg⟩, _⟩ := hf ⟨i, h1⟩
    exact ⟨d.1, by rw [List.getElem?_map, hd]; rfl, hg⟩
  · rcases Nat.eq_zero_or_pos cap with h0 | h0
    · exact Or.inl h0
    · have : a.spot = none ∧ a.block < W.heap.size := by
        by_cases h1 : 0 < len
        · obtain ⟨_, _, _, _, h1, h2, _⟩ := each 0 h1
          exact ⟨h1, h2⟩
        · exact eachR 0 (by omega)
      exact Or.inr ⟨a.block, a.off, by obtain ⟨b, o, sp⟩ := a; simp only at this; rw [this.1], this.2⟩
  · exact range_flat cf k hcf W _ _ _ (fun i y h => by
      obtain ⟨h1, rfl⟩ := hy i y h
      exact (hf ⟨i, h1⟩).2)

theorem three {cs : List Value} (h : cs.length = 3) : ∃ a b c, cs = [a, b, c] := by
  match cs, h with
  | [a, b, c], _ => exact ⟨a, b, c, rfl⟩
theorem nine {cs : List Value} (h : cs.length = 9) : ∃ a b c d e f g x y, cs = [a, b, c, d, e, f, g, x, y] := by
  match cs, h with
  | [a, b, c, d, e, f, g, x, y], _ => exact ⟨a, b, c, d, e, f, g, x, y, rfl⟩
theorem eleven {cs : List Value} (h : cs.length = 11) : ∃ a b c d e f g x y z t, cs = [a, b, c, d, e, f, g, x, y, z, t] := by
  match cs, h with
  | [a, b, c, d, e, f, g, x, y, z, t], _ => exact ⟨a, b, c, d, e, f, g, x, y, z, t, rfl⟩
theorem two {cs : List Value} (h : cs.length = 2) : ∃ a b, cs = [a, b] := by
  match cs, h with
  | [a, b], _ => exact ⟨a, b, rfl⟩
theorem open_mem {H : Type} {enc : TypeId × Value → H} {W : World} {base : Nat} {sp : Nat → Bool} {held : Bool} {n : Nat} {l : List Value} {x : DataW H × List MemPlace} (hf : DataW.trod enc Try.prog W base sp held n 60 l = some x) : ∃ m : Mb, l = m.cells ∧ True := by
  obtain ⟨xs, n, rfl, rfl, hl, hlen, hfs⟩ := DataW.trod_struct Try.underlying60 hf
  have hc : Try.prog.cellsOf 60 = 3 := by kernel_rfl
  have c3 : Try.prog.cellsOf 3 = 1 := by kernel_rfl
  obtain ⟨x0, x1, x2, rfl⟩ := three (cs := l) (hl.trans hc)
  have hx : xs.length = 3 := hlen
  obtain ⟨y0, hy0⟩ : ∃ y, xs[0]? = some y := ⟨_, List.getElem?_eq_getElem (by omega)⟩
  have g0 : DataW.trod enc Try.prog W base sp held n 3 (List.take (Try.prog.cellsOf 3) (List.drop 0 [x0, x1, x2])) = some y0 := (hfs 0 _ rfl).trans hy0
  rw [c3] at g0
  obtain ⟨n0, e0, _⟩ := DataW.trod_int Try.underlying3 g0
  obtain rfl : x0 = _ := by simpa using e0
  obtain ⟨y1, hy1⟩ : ∃ y, xs[1]? = some y := ⟨_, List.getElem?_eq_getElem (by omega)⟩
  have g1 : DataW.trod enc Try.prog W base sp held n 3 (List.take (Try.prog.cellsOf 3) (List.drop 1 [.int .i64 n0, x1, x2])) = some y1 := (hfs 1 _ rfl).trans hy1
  rw [c3] at g1
  obtain ⟨n1, e1, _⟩ := DataW.trod_int Try.underlying3 g1
  obtain rfl : x1 = _ := by simpa using e1
  obtain ⟨y2, hy2⟩ : ∃ y, xs[2]? = some y := ⟨_, List.getElem?_eq_getElem (by omega)⟩
  have g2 : DataW.trod enc Try.prog W base sp held n 3 (List.take (Try.prog.cellsOf 3) (List.drop 2 [.int .i64 n0, .int .i64 n1, x2])) = some y2 := (hfs 2 _ rfl).trans hy2
  rw [c3] at g2
  obtain ⟨n2, e2, _⟩ := DataW.trod_int Try.underlying3 g2
  obtain rfl : x2 = _ := by simpa using e2
  exact ⟨⟨n0, n1, n2⟩, rfl, trivial⟩
theorem open_mems {H : Type} {enc : TypeId × Value → H} {W : World} {base : Nat} {sp : Nat → Bool} {held : Bool} {n : Nat} {l : List Value} {x : DataW H × List MemPlace} (hs : ∀ b, sp b = true) (hf : DataW.trod enc Try.prog W base sp held n 36 l = some x) :
    ∃ (a : Option Addr) (len cap : Nat) (M : List Mb), l = [.slice a len cap] ∧ ((∀ k ∈ x.1.weights Try.prog 36, k ≤ reachBytes) → M.length = len ∧ len ≤ 5864062014805 ∧ (RowOf W a len cap (mflat M) ∨ len = 0 ∧ cap = 0)) := by
  rcases open_row Mb.cells 3 (by decide) (fun _ => rfl) Try.underlying36 (by kernel_rfl) (fun _ _ => True) (fun n l x h => open_mem h) hs hf with ⟨rfl, h1⟩ | ⟨a, cap, ys, elems, rest, rfl, h1, h2, h3, h4, _, h5, h6⟩
  · exact ⟨none, 0, 0, [], rfl, fun _ => ⟨rfl, Nat.zero_le _, Or.inr ⟨rfl, rfl⟩⟩⟩
  · refine ⟨some a, ys.length, cap, ys, rfl, fun hw => ⟨rfl, ?_, ?_⟩⟩
    · have hb : Try.prog.bytesOf 60 = 24 := by kernel_rfl
      have := hw ((elems.length + rest.length) * Try.prog.bytesOf 60) (by rw [h1]; simp [DataW.weights, Try.underlying36])
      rw [hb, h4] at this
      unfold reachBytes at this
      omega
    · rcases h5 with h5 | ⟨g, o, rfl, hg⟩
      · exact Or.inr ⟨by omega, h5⟩
      · exact Or.inl (Or.inr ⟨g, o, rfl, hg, h2, h3, h6⟩)
theorem open_bunch {H : Type} {enc : TypeId × Value → H} {W : World} {base : Nat} {sp : Nat → Bool} {held : Bool} {n : Nat} {l : List Value} {x : DataW H × List MemPlace} (hs : ∀ b, sp b = true) (hf : DataW.trod enc Try.prog W base sp held n 38 l = some x) :
    ∃ (id ten kd sec cnt : Int) (dat : ByteArray) (fua : Bool) (ma : Option Addr) (ml mc : Nat) (tm : Int) (M : List Mb), l = [.int .i64 id, .int .i64 ten, .int .i64 kd, .int .i64 sec, .int .i64 cnt, .string dat, .bool fua, .slice ma ml mc, .int .i64 tm] ∧
      ((∀ k ∈ x.1.weights Try.prog 38, k ≤ reachBytes) → M.length = ml ∧ ml ≤ 5864062014805 ∧ (RowOf W ma ml mc (mflat M) ∨ ml = 0 ∧ mc = 0)) := by
  obtain ⟨xs, n, rfl, rfl, hl, hlen, hfs⟩ := DataW.trod_struct Try.underlying38 hf
  have hc : Try.prog.cellsOf 38 = 9 := by kernel_rfl
  have c3 : Try.prog.cellsOf 3 = 1 := by kernel_rfl
  have c9 : Try.prog.cellsOf 9 = 1 := by kernel_rfl
  have c4 : Try.prog.cellsOf 4 = 1 := by kernel_rfl
  have c36 : Try.prog.cellsOf 36 = 1 := by kernel_rfl
  obtain ⟨x0, x1, x2, x3, x4, x5, x6, x7, x8, rfl⟩ := nine (cs := l) (hl.trans hc)
  have hx : xs.length = 9 := hlen
  obtain ⟨y0, hy0⟩ : ∃ y, xs[0]? = some y := ⟨_, List.getElem?_eq_getElem (by omega)⟩
  have g0 : DataW.trod enc Try.prog W base sp held n 3 (List.take (Try.prog.cellsOf 3) (List.drop 0 [x0, x1, x2, x3, x4, x5, x6, x7, x8])) = some y0 := (hfs 0 _ rfl).trans hy0
  rw [c3] at g0
  obtain ⟨n0, e0, _⟩ := DataW.trod_int Try.underlying3 g0
  obtain rfl : x0 = _ := by simpa using e0
  obtain ⟨y1, hy1⟩ : ∃ y, xs[1]? = some y := ⟨_, List.getElem?_eq_getElem (by omega)⟩
  have g1 : DataW.trod enc Try.prog W base sp held n 3 (List.take (Try.prog.cellsOf 3) (List.drop 1 [.int .i64 n0, x1, x2, x3, x4, x5, x6, x7, x8])) = some y1 := (hfs 1 _ rfl).trans hy1
  rw [c3] at g1
  obtain ⟨n1, e1, _⟩ := DataW.trod_int Try.underlying3 g1
  obtain rfl : x1 = _ := by simpa using e1
  obtain ⟨y2, hy2⟩ : ∃ y, xs[2]? = some y := ⟨_, List.getElem?_eq_getElem (by omega)⟩
  have g2 : DataW.trod enc Try.prog W base sp held n 3 (List.take (Try.prog.cellsOf 3) (List.drop 2 [.int .i64 n0, .int .i64 n1, x2, x3, x4, x5, x6, x7, x8])) = some y2 := (hfs 2 _ rfl).trans hy2
  rw [c3] at g2
  obtain ⟨n2, e2, _⟩ := DataW.trod_int Try.underlying3 g2
  obtain rfl : x2 = _ := by simpa using e2
  obtain ⟨y3, hy3⟩ : ∃ y, xs[3]? = some y := ⟨_, List.getElem?_eq_getElem (by omega)⟩
  have g3 : DataW.trod enc Try.prog W base sp held n 3 (List.take (Try.prog.cellsOf 3) (List.drop 3 [.int .i64 n0, .int .i64 n1, .int .i64 n2, x3, x4, x5, x6, x7, x8])) = some y3 := (hfs 3 _ rfl).trans hy3
  rw [c3] at g3
  obtain ⟨n3, e3, _⟩ := DataW.trod_int Try.underlying3 g3
  obtain rfl : x3 = _ := by simpa using e3
  obtain ⟨y4, hy4⟩ : ∃ y, xs[4]? = some y := ⟨_, List.getElem?_eq_getElem (by omega)⟩
  have g4 : DataW.trod enc Try.prog W base sp held n 3 (List.take (Try.prog.cellsOf 3) (List.drop 4 [.int .i64 n0, .int .i64 n1, .int .i64 n2, .int .i64 n3, x4, x5, x6, x7, x8])) = some y4 := (hfs 4 _ rfl).trans hy4
  rw [c3] at g4
  obtain ⟨n4, e4, _⟩ := DataW.trod_int Try.underlying3 g4
  obtain rfl : x4 = _ := by simpa using e4
  obtain ⟨y5, hy5⟩ : ∃ y, xs[5]? = some y := ⟨_, List.getElem?_eq_getElem (by omega)⟩
  have g5 : DataW.trod enc Try.prog W base sp held n 9 (List.take (Try.prog.cellsOf 9) (List.drop 5 [.int .i64 n0, .int .i64 n1, .int .i64 n2, .int .i64 n3, .int .i64 n4, x5, x6, x7, x8])) = some y5 := (hfs 5 _ rfl).trans hy5
  rw [c9] at g5
  obtain ⟨n5, e5, _, hD⟩ := DataW.trod_string Try.underlying9 g5
  obtain rfl : x5 = _ := by simpa using e5
  obtain ⟨y6, hy6⟩ : ∃ y, xs[6]? = some y := ⟨_, List.getElem?_eq_getElem (by omega)⟩
  have g6 : DataW.trod enc Try.prog W base sp held n 4 (List.take (Try.prog.cellsOf 4) (List.drop 6 [.int .i64 n0, .int .i64 n1, .int .i64 n2, .int .i64 n3, .int .i64 n4, .string n5, x6, x7, x8])) = some y6 := (hfs 6 _ rfl).trans hy6
  rw [c4] at g6
  obtain ⟨n6, e6, _⟩ := DataW.trod_bool Try.underlying4 g6
  obtain rfl : x6 = _ := by simpa using e6
  obtain ⟨y7, hy7⟩ : ∃ y, xs[7]? = some y := ⟨_, List.getElem?_eq_getElem (by omega)⟩
  have g7 : DataW.trod enc Try.prog W base sp held n 36 (List.take (Try.prog.cellsOf 36) (List.drop 7 [.int .i64 n0, .int .i64 n1, .int .i64 n2, .int .i64 n3, .int .i64 n4, .string n5, .bool n6, x7, x8])) = some y7 := (hfs 7 _ rfl).trans hy7
  rw [c36] at g7
  obtain ⟨ma, ml, mc, M, e7, hM⟩ := open_mems hs g7
  obtain rfl : x7 = _ := by simpa using e7
  obtain ⟨y8, hy8⟩ : ∃ y, xs[8]? = some y := ⟨_, List.getElem?_eq_getElem (by omega)⟩
  have g8 : DataW.trod enc Try.prog W base sp held n 3 (List.take (Try.prog.cellsOf 3) (List.drop 8 [.int .i64 n0, .int .i64 n1, .int .i64 n2, .int .i64 n3, .int .i64 n4, .string n5, .bool n6, .slice ma ml mc, x8])) = some y8 := (hfs 8 _ rfl).trans hy8
  rw [c3] at g8
  obtain ⟨n8, e8, _⟩ := DataW.trod_int Try.underlying3 g8
  obtain rfl : x8 = _ := by simpa using e8
  refine ⟨n0, n1, n2, n3, n4, n5, n6, ma, ml, mc, n8, M, rfl, fun hw => hM fun k hk => hw k ?_⟩
  simp only [DataW.weights, Try.underlying38]
  exact DataW.weights_mem_each (j := 7) (t := 36) (d := y7.1) rfl (by rw [List.getElem?_map, hy7]; rfl) k hk
theorem open_later {H : Type} {enc : TypeId × Value → H} {W : World} {base : Nat} {sp : Nat → Bool} {held : Bool} {n : Nat} {l : List Value} {x : DataW H × List MemPlace} (hs : ∀ b, sp b = true) (hf : DataW.trod enc Try.prog W base sp held n 40 l = some x) :
    ∃ A : Ar, l = A.cells ∧ ((∀ k ∈ x.1.weights Try.prog 40, k ≤ reachBytes) → MemOK W A) := by
  obtain ⟨xs, n, rfl, rfl, hl, hlen, hfs⟩ := DataW.trod_struct Try.underlying40 hf
  have hc : Try.prog.cellsOf 40 = 11 := by kernel_rfl
  have c3 : Try.prog.cellsOf 3 = 1 := by kernel_rfl
  have c38 : Try.prog.cellsOf 38 = 9 := by kernel_rfl
  obtain ⟨x0, x1, x2, x3, x4, x5, x6, x7, x8, x9, x10, rfl⟩ := eleven (cs := l) (hl.trans hc)
  have hx : xs.length = 3 := hlen
  obtain ⟨y0, hy0⟩ : ∃ y, xs[0]? = some y := ⟨_, List.getElem?_eq_getElem (by omega)⟩
  have g0 : DataW.trod enc Try.prog W base sp held n 38 (List.take (Try.prog.cellsOf 38) (List.drop 0 [x0, x1, x2, x3, x4, x5, x6, x7, x8, x9, x10])) = some y0 := (hfs 0 _ rfl).trans hy0
  rw [c38] at g0
  obtain ⟨id, ten, kd, sec, cnt, dat, fua, ma, ml, mc, tm, M, e, hM⟩ := open_bunch hs g0
  simp only [List.drop_zero, List.take_succ_cons, List.take_zero, List.cons.injEq, and_true] at e
  obtain ⟨rfl, rfl, rfl, rfl, rfl, rfl, rfl, rfl, rfl⟩ := e
  obtain ⟨y1, hy1⟩ : ∃ y, xs[1]? = some y := ⟨_, List.getElem?_eq_getElem (by omega)⟩
  have g1 : DataW.trod enc Try.prog W base sp held n 3 (List.take (Try.prog.cellsOf 3) (List.drop 9 [.int .i64 id, .int .i64 ten, .int .i64 kd, .int .i64 sec, .int .i64 cnt, .string dat, .bool fua, .slice ma ml mc, .int .i64 tm, x9, x10])) = some y1 := (hfs 1 _ rfl).trans hy1
  rw [c3] at g1
  obtain ⟨n9, e9, _⟩ := DataW.trod_int Try.underlying3 g1
  obtain rfl : x9 = _ := by simpa using e9
  obtain ⟨y2, hy2⟩ : ∃ y, xs[2]? = some y := ⟨_, List.getElem?_eq_getElem (by omega)⟩
  have g2 : DataW.trod enc Try.prog W base sp held n 3 (List.take (Try.prog.cellsOf 3) (List.drop 10 [.int .i64 id, .int .i64 ten, .int .i64 kd, .int .i64 sec, .int .i64 cnt, .string dat, .bool fua, .slice ma ml mc, .int .i64 tm, .int .i64 n9, x10])) = some y2 := (hfs 2 _ rfl).trans hy2
  rw [c3] at g2
  obtain ⟨n10, e10, _⟩ := DataW.trod_int Try.underlying3 g2
  obtain rfl : x10 = _ := by simpa using e10
  refine ⟨⟨id, ten, kd, sec, cnt, dat, fua, ma, ml, mc, tm, n9, n10, M⟩, rfl, fun hw => hM fun k hk => hw k ?_⟩
  simp only [DataW.weights, Try.underlying40]
  exact DataW.weights_mem_each (j := 0) (t := 38) (d := y0.1) rfl (by rw [List.getElem?_map, hy0]; rfl) k hk
theorem weights_all {H : Type} {P : Program} {e : TypeId} : ∀ {ds : List (DataW H)} {d : DataW H} {i : Nat}, ds[i]? = some d → ∀ n ∈ d.weights P e, n ∈ DataW.weightsAll P e ds
  | [], _, _, h => by simp at h
  | d0 :: r, d, 0, h => fun n hn => by
    simp only [List.getElem?_cons_zero, Option.some.injEq] at h
    subst h
    simp only [DataW.weightsAll, List.mem_append]
    exact Or.inl hn
  | d0 :: r, d, i + 1, h => fun n hn => by
    simp only [List.getElem?_cons_succ] at h
    simp only [DataW.weightsAll, List.mem_append]
    exact Or.inr (weights_all h n hn)
theorem open_list {H : Type} {enc : TypeId × Value → H} {W : World} {base : Nat} {sp : Nat → Bool} {held : Bool} {n : Nat} {x : DataW H × List MemPlace} {r : Reach} {b0 : Nat} {v : Value} (hval : Value.okWide Try.prog W r b0 34 v) (hs : ∀ b, sp b = true) (hf : DataW.trod enc Try.prog W base sp held n 34 v.cells.toList = some x) :
    ∃ (a : Option Addr) (cap : Nat) (l : List Ar), v = .slice a l.length cap ∧ ARow W a cap l ∧ ((∀ k ∈ x.1.weights Try.prog 34, k ≤ reachBytes) → ∀ y ∈ l, MemOK W y) := by
  obtain ⟨a', n', c', rfl⟩ := okWide_slice Try.underlying34 hval
  rcases open_row Ar.cells 11 (by decide) (fun _ => rfl) Try.underlying34 (by kernel_rfl) (fun (A : Ar) d => (∀ k ∈ d.weights Try.prog 40, k ≤ reachBytes) → MemOK W A) (fun n l x h => open_later hs h) hs hf with ⟨e1, h1⟩ | ⟨a, cap, ys, elems, rest, e1, h1, h2, h3, h4, h7, h5, h6⟩
  · simp [Value.cells] at e1
    obtain ⟨rfl, rfl, rfl⟩ := e1
    exact ⟨none, 0, [], rfl, Or.inl ⟨rfl, rfl, rfl⟩, fun _ y hy => by cases hy⟩
  · simp [Value.cells] at e1
    obtain ⟨rfl, rfl, rfl⟩ := e1
    refine ⟨some a, c', ys, rfl, Or.inr ?_, fun hw y hy => ?_⟩
    · have hok : Cell.ok Try.prog W r b0 34 (.slice (some a) ys.length c') := by
        have := hval
        simp only [Value.okWide, Try.underlying34, Cell.okWide] at this
        exact this
      simp only [Cell.ok, Try.underlying34] at hok
      obtain ⟨_, _, _, hsp, row, cells, hsh, _⟩ := hok
      obtain ⟨g, o, spt⟩ := a
      simp only at hsp
      subst hsp
      refine ⟨g, o, rfl, ?_, h2, h3, h6⟩
      unfold World.shape? at hsh
      rcases Nat.lt_or_ge g W.heap.size with h | h
      · exact h
      · simp [Array.getElem?_eq_none h] at hsh
    · obtain ⟨i, hi⟩ := List.getElem?_of_mem hy
      obtain ⟨d, hd, hg⟩ := h7 i y hi
      refine hg fun k hk => hw k ?_
      rw [h1]
      simp only [DataW.weights, Try.underlying34, List.mem_cons, List.mem_append]
      exact Or.inr (Or.inl (weights_all hd k hk))
theorem open_one {H : Type} {enc : TypeId × Value → H} {W : World} {base : Nat} {sp : Nat → Bool} {held : Bool} {n : Nat} {x : DataW H × List MemPlace} {r : Reach} {b0 : Nat} {v : Value} (hval : Value.okWide Try.prog W r b0 40 v) (hs : ∀ b, sp b = true) (hf : DataW.trod enc Try.prog W base sp held n 40 v.cells.toList = some x) :
    ∃ A : Ar, v = arVal A ∧ ((∀ k ∈ x.1.weights Try.prog 40, k ≤ reachBytes) → MemOK W A) := by
  obtain ⟨cs, rfl, hsz⟩ := okWide_struct Try.underlying40 hval
  obtain ⟨A, h1, h2⟩ := open_later hs hf
  refine ⟨A, ?_, h2⟩
  obtain ⟨l⟩ := cs
  have : l = A.cells := by simpa [Value.cells] using h1
  rw [this]
  rfl
theorem open_policy {H : Type} {enc : TypeId × Value → H} {W : World} {base : Nat} {sp : Nat → Bool} {held : Bool} {n : Nat} {x : DataW H × List MemPlace} {r : Reach} {b0 : Nat} {v : Value} (hval : Value.okWide Try.prog W r b0 25 v) (hf : DataW.trod enc Try.prog W base sp held n 25 v.cells.toList = some x) :
    ∃ m t : Int, v = .agg #[.int .i64 m, .int .i64 t] := by
  obtain ⟨cs, rfl, hsz⟩ := okWide_struct Try.underlying25 hval
  obtain ⟨l⟩ := cs
  simp only [Value.cells] at hf
  obtain ⟨xs, n, rfl, rfl, hl, hlen, hfs⟩ := DataW.trod_struct Try.underlying25 hf
  have hc : Try.prog.cellsOf 25 = 2 := by kernel_rfl
  have c3 : Try.prog.cellsOf 3 = 1 := by kernel_rfl
  obtain ⟨x0, x1, rfl⟩ := two (cs := l) (hl.trans hc)
  have hx : xs.length = 2 := hlen
  obtain ⟨y0, hy0⟩ : ∃ y, xs[0]? = some y := ⟨_, List.getElem?_eq_getElem (by omega)⟩
  have g0 : DataW.trod enc Try.prog W base sp held n 3 (List.take (Try.prog.cellsOf 3) (List.drop 0 [x0, x1])) = some y0 := (hfs 0 _ rfl).trans hy0
  rw [c3] at g0
  obtain ⟨n0, e0, _⟩ := DataW.trod_int Try.underlying3 g0
  obtain rfl : x0 = _ := by simpa using e0
  obtain ⟨y1, hy1⟩ : ∃ y, xs[1]? = some y := ⟨_, List.getElem?_eq_getElem (by omega)⟩
  have g1 : DataW.trod enc Try.prog W base sp held n 3 (List.take (Try.prog.cellsOf 3) (List.drop 1 [.int .i64 n0, x1])) = some y1 := (hfs 1 _ rfl).trans hy1
  rw [c3] at g1
  obtain ⟨n1, e1, _⟩ := DataW.trod_int Try.underlying3 g1
  obtain rfl : x1 = _ := by simpa using e1
  exact ⟨n0, n1, rfl⟩
end Go.Proofs.Ythfjlojikbgnfaa
