/- Layer 35: a request among the arguments, opened. -/
import Derived.Test.YtppkbifhhpakgaaMid
namespace Go.Proofs.Ytppkbifhhpakgaa
open Go.ChangeShapes Go.WideShapes Go.ChangeAt Go.RowKit

theorem ten {cs : List Value} (h : cs.length = 10) : ∃ a b c d e f g x y z, cs = [a, b, c, d, e, f, g, x, y, z] := by
  match cs, h with
  | [a, b, c, d, e, f, g, x, y, z], _ => exact ⟨a, b, c, d, e, f, g, x, y, z, rfl⟩
theorem open_req {H : Type} {enc : TypeId × Value → H} {W : World} {r : Reach} {b0 base : Nat} {sp : Nat → Bool} {held : Bool} {v : Value} {d : DataW H} {ps : List MemPlace} (hval : Value.okWide Try.prog W r b0 23 v) (hd : DataW.Trod enc Try.prog W base sp held 23 v d ps) :
    ∃ (i t dv k s c : Int) (D : ByteArray) (p f : Bool) (m : Int), v = .agg #[.int .i64 i, .int .i64 t, .int .i64 dv, .int .i64 k, .int .i64 s, .int .i64 c, .string D, .bool p, .bool f, .int .i64 m] ∧ D.size ≤ maxLen := by
  obtain ⟨cs, rfl, hsz⟩ := okWide_struct Try.underlying23 hval
  obtain ⟨fuel, hf⟩ := hd
  obtain ⟨xs, n, rfl, _, hl, hlen, hfs⟩ := DataW.trod_struct Try.underlying23 hf
  have hc : Try.prog.cellsOf 23 = 10 := by kernel_rfl
  have c3 : Try.prog.cellsOf 3 = 1 := by kernel_rfl
  have c9 : Try.prog.cellsOf 9 = 1 := by kernel_rfl
  have c4 : Try.prog.cellsOf 4 = 1 := by kernel_rfl
  obtain ⟨l⟩ := cs
  obtain ⟨x0, x1, x2, x3, x4, x5, x6, x7, x8, x9, rfl⟩ := ten (cs := l) (hsz.trans hc)
  have hx : xs.length = 10 := hlen
  obtain ⟨y0, hy0⟩ : ∃ y, xs[0]? = some y := ⟨_, List.getElem?_eq_getElem (by omega)⟩
  have g0 : DataW.trod enc Try.prog W base sp held n 3 (List.take (Try.prog.cellsOf 3) (List.drop 0 [x0, x1, x2, x3, x4, x5, x6, x7, x8, x9])) = some y0 := (hfs 0 _ rfl).trans hy0
  rw [c3] at g0
  obtain ⟨n0, e0, _⟩ := DataW.trod_int Try.underlying3 g0
  obtain rfl : x0 = _ := by simpa [Value.cells] using e0
  obtain ⟨y1, hy1⟩ : ∃ y, xs[1]? = some y := ⟨_, List.getElem?_eq_getElem (by omega)⟩
  have g1 : DataW.trod enc Try.prog W base sp held n 3 (List.take (Try.prog.cellsOf 3) (List.drop 1 [.int .i64 n0, x1, x2, x3, x4, x5, x6, x7, x8, x9])) = some y1 := (hfs 1 _ rfl).trans hy1
  rw [c3] at g1
  obtain ⟨n1, e1, _⟩ := DataW.trod_int Try.underlying3 g1
  obtain rfl : x1 = _ := by simpa [Value.cells] using e1
  obtain ⟨y2, hy2⟩ : ∃ y, xs[2]? = some y := ⟨_, List.getElem?_eq_getElem (by omega)⟩
  have g2 : DataW.trod enc Try.prog W base sp held n 3 (List.take (Try.prog.cellsOf 3) (List.drop 2 [.int .i64 n0, .int .i64 n1, x2, x3, x4, x5, x6, x7, x8, x9])) = some y2 := (hfs 2 _ rfl).trans hy2
  rw [c3] at g2
  obtain ⟨n2, e2, _⟩ := DataW.trod_int Try.underlying3 g2
  obtain rfl : x2 = _ := by simpa [Value.cells] using e2
  obtain ⟨y3, hy3⟩ : ∃ y, xs[3]? = some y := ⟨_, List.getElem?_eq_getElem (by omega)⟩
  have g3 : DataW.trod enc Try.prog W base sp held n 3 (List.take (Try.prog.cellsOf 3) (List.drop 3 [.int .i64 n0, .int .i64 n1, .int .i64 n2, x3, x4, x5, x6, x7, x8, x9])) = some y3 := (hfs 3 _ rfl).trans hy3
  rw [c3] at g3
  obtain ⟨n3, e3, _⟩ := DataW.trod_int Try.underlying3 g3
  obtain rfl : x3 = _ := by simpa [Value.cells] using e3
  obtain ⟨y4, hy4⟩ : ∃ y, xs[4]? = some y := ⟨_, List.getElem?_eq_getElem (by omega)⟩
  have g4 : DataW.trod enc Try.prog W base sp held n 3 (List.take (Try.prog.cellsOf 3) (List.drop 4 [.int .i64 n0, .int .i64 n1, .int .i64 n2, .int .i64 n3, x4, x5, x6, x7, x8, x9])) = some y4 := (hfs 4 _ rfl).trans hy4
  rw [c3] at g4
  obtain ⟨n4, e4, _⟩ := DataW.trod_int Try.underlying3 g4
  obtain rfl : x4 = _ := by simpa [Value.cells] using e4
  obtain ⟨y5, hy5⟩ : ∃ y, xs[5]? = some y := ⟨_, List.getElem?_eq_getElem (by omega)⟩
  have g5 : DataW.trod enc Try.prog W base sp held n 3 (List.take (Try.prog.cellsOf 3) (List.drop 5 [.int .i64 n0, .int .i64 n1, .int .i64 n2, .int .i64 n3, .int .i64 n4, x5, x6, x7, x8, x9])) = some y5 := (hfs 5 _ rfl).trans hy5
  rw [c3] at g5
  obtain ⟨n5, e5, _⟩ := DataW.trod_int Try.underlying3 g5
  obtain rfl : x5 = _ := by simpa [Value.cells] using e5
  obtain ⟨y6, hy6⟩ : ∃ y, xs[6]? = some y := ⟨_, List.getElem?_eq_getElem (by omega)⟩
  have g6 : DataW.trod enc Try.prog W base sp held n 9 (List.take (Try.prog.cellsOf 9) (List.drop 6 [.int .i64 n0, .int .i64 n1, .int .i64 n2, .int .i64 n3, .int .i64 n4, .int .i64 n5, x6, x7, x8, x9])) = some y6 := (hfs 6 _ rfl).trans hy6
  rw [c9] at g6
  obtain ⟨n6, e6, _, hD⟩ := DataW.trod_string Try.underlying9 g6
  obtain rfl : x6 = _ := by simpa [Value.cells] using e6
  obtain ⟨y7, hy7⟩ : ∃ y, xs[7]? = some y := ⟨_, List.getElem?_eq_getElem (by omega)⟩
  have g7 : DataW.trod enc Try.prog W base sp held n 4 (List.take (Try.prog.cellsOf 4) (List.drop 7 [.int .i64 n0, .int .i64 n1, .int .i64 n2, .int .i64 n3, .int .i64 n4, .int .i64 n5, .string n6, x7, x8, x9])) = some y7 := (hfs 7 _ rfl).trans hy7
  rw [c4] at g7
  obtain ⟨n7, e7, _⟩ := DataW.trod_bool Try.underlying4 g7
  obtain rfl : x7 = _ := by simpa [Value.cells] using e7
  obtain ⟨y8, hy8⟩ : ∃ y, xs[8]? = some y := ⟨_, List.getElem?_eq_getElem (by omega)⟩
  have g8 : DataW.trod enc Try.prog W base sp held n 4 (List.take (Try.prog.cellsOf 4) (List.drop 8 [.int .i64 n0, .int .i64 n1, .int .i64 n2, .int .i64 n3, .int .i64 n4, .int .i64 n5, .string n6, .bool n7, x8, x9])) = some y8 := (hfs 8 _ rfl).trans hy8
  rw [c4] at g8
  obtain ⟨n8, e8, _⟩ := DataW.trod_bool Try.underlying4 g8
  obtain rfl : x8 = _ := by simpa [Value.cells] using e8
  obtain ⟨y9, hy9⟩ : ∃ y, xs[9]? = some y := ⟨_, List.getElem?_eq_getElem (by omega)⟩
  have g9 : DataW.trod enc Try.prog W base sp held n 3 (List.take (Try.prog.cellsOf 3) (List.drop 9 [.int .i64 n0, .int .i64 n1, .int .i64 n2, .int .i64 n3, .int .i64 n4, .int .i64 n5, .string n6, .bool n7, .bool n8, x9])) = some y9 := (hfs 9 _ rfl).trans hy9
  rw [c3] at g9
  obtain ⟨n9, e9, _⟩ := DataW.trod_int Try.underlying3 g9
  obtain rfl : x9 = _ := by simpa [Value.cells] using e9
  exact ⟨n0, n1, n2, n3, n4, n5, n6, n7, n8, n9, rfl, hD⟩
theorem req_cells {H : Type} {enc : TypeId × Value → H} {W : World} {base : Nat} {sp : Nat → Bool} {held : Bool} {fuel : Nat} {l : List Value} {x : DataW H × List MemPlace} (hf : DataW.trod enc Try.prog W base sp held fuel 23 l = some x) :
    ∃ (i t dv k s c : Int) (D : ByteArray) (p f : Bool) (m : Int), l = [.int .i64 i, .int .i64 t, .int .i64 dv, .int .i64 k, .int .i64 s, .int .i64 c, .string D, .bool p, .bool f, .int .i64 m] ∧ D.size ≤ maxLen := by
  obtain ⟨xs, n, rfl, _, hl, hlen, hfs⟩ := DataW.trod_struct Try.underlying23 hf
  have hc : Try.prog.cellsOf 23 = 10 := by kernel_rfl
  have c3 : Try.prog.cellsOf 3 = 1 := by kernel_rfl
  have c9 : Try.prog.cellsOf 9 = 1 := by kernel_rfl
  have c4 : Try.prog.cellsOf 4 = 1 := by kernel_rfl
  obtain ⟨x0, x1, x2, x3, x4, x5, x6, x7, x8, x9, rfl⟩ := ten (cs := l) (hl.trans hc)
  have hx : xs.length = 10 := hlen
  obtain ⟨y0, hy0⟩ : ∃ y, xs[0]? = some y := ⟨_, List.getElem?_eq_getElem (by omega)⟩
  have g0 : DataW.trod enc Try.prog W base sp held n 3 (List.take (Try.prog.cellsOf 3) (List.drop 0 [x0, x1, x2, x3, x4, x5, x6, x7, x8, x9])) = some y0 := (hfs 0 _ rfl).trans hy0
  rw [c3] at g0
  obtain ⟨n0, e0, _⟩ := DataW.trod_int Try.underlying3 g0
  obtain rfl : x0 = _ := by simpa [Value.cells] using e0
  obtain ⟨y1, hy1⟩ : ∃ y, xs[1]? = some y := ⟨_, List.getElem?_eq_getElem (by omega)⟩
  have g1 : DataW.trod enc Try.prog W base sp held n 3 (List.take (Try.prog.cellsOf 3) (List.drop 1 [.int .i64 n0, x1, x2, x3, x4, x5, x6, x7, x8, x9])) = some y1 := (hfs 1 _ rfl).trans hy1
  rw [c3] at g1
  obtain ⟨n1, e1, _⟩ := DataW.trod_int Try.underlying3 g1
  obtain rfl : x1 = _ := by simpa [Value.cells] using e1
  obtain ⟨y2, hy2⟩ : ∃ y, xs[2]? = some y := ⟨_, List.getElem?_eq_getElem (by omega)⟩
  have g2 : DataW.trod enc Try.prog W base sp held n 3 (List.take (Try.prog.cellsOf 3) (List.drop 2 [.int .i64 n0, .int .i64 n1, x2, x3, x4, x5, x6, x7, x8, x9])) = some y2 := (hfs 2 _ rfl).trans hy2
  rw [c3] at g2
  obtain ⟨n2, e2, _⟩ := DataW.trod_int Try.underlying3 g2
  obtain rfl : x2 = _ := by simpa [Value.cells] using e2
  obtain ⟨y3, hy3⟩ : ∃ y, xs[3]? = some y := ⟨_, List.getElem?_eq_getElem (by omega)⟩
  have g3 : DataW.trod enc Try.prog W base sp held n 3 (List.take (Try.prog.cellsOf 3) (List.drop 3 [.int .i64 n0, .int .i64 n1, .int .i64 n2, x3, x4, x5, x6, x7, x8, x9])) = some y3 := (hfs 3 _ rfl).trans hy3
  rw [c3] at g3
  obtain ⟨n3, e3, _⟩ := DataW.trod_int Try.underlying3 g3
  obtain rfl : x3 = _ := by simpa [Value.cells] using e3
  obtain ⟨y4, hy4⟩ : ∃ y, xs[4]? = some y := ⟨_, List.getElem?_eq_getElem (by omega)⟩
  have g4 : DataW.trod enc Try.prog W base sp held n 3 (List.take (Try.prog.cellsOf 3) (List.drop 4 [.int .i64 n0, .int .i64 n1, .int .i64 n2, .int .i64 n3, x4, x5, x6, x7, x8, x9])) = some y4 := (hfs 4 _ rfl).trans hy4
  rw [c3] at g4
  obtain ⟨n4, e4, _⟩ := DataW.trod_int Try.underlying3 g4
  obtain rfl : x4 = _ := by simpa [Value.cells] using e4
  obtain ⟨y5, hy5⟩ : ∃ y, xs[5]? = some y := ⟨_, List.getElem?_eq_getElem (by omega)⟩
  have g5 : DataW.trod enc Try.prog W base sp held n 3 (List.take (Try.prog.cellsOf 3) (List.drop 5 [.int .i64 n0, .int .i64 n1, .int .i64 n2, .int .i64 n3, .int .i64 n4, x5, x6, x7, x8, x9])) = some y5 := (hfs 5 _ rfl).trans hy5
  rw [c3] at g5
  obtain ⟨n5, e5, _⟩ := DataW.trod_int Try.underlying3 g5
  obtain rfl : x5 = _ := by simpa [Value.cells] using e5
  obtain ⟨y6, hy6⟩ : ∃ y, xs[6]? = some y := ⟨_, List.getElem?_eq_getElem (by omega)⟩
  have g6 : DataW.trod enc Try.prog W base sp held n 9 (List.take (Try.prog.cellsOf 9) (List.drop 6 [.int .i64 n0, .int .i64 n1, .int .i64 n2, .int .i64 n3, .int .i64 n4, .int .i64 n5, x6, x7, x8, x9])) = some y6 := (hfs 6 _ rfl).trans hy6
  rw [c9] at g6
  obtain ⟨n6, e6, _, hD⟩ := DataW.trod_string Try.underlying9 g6
  obtain rfl : x6 = _ := by simpa [Value.cells] using e6
  obtain ⟨y7, hy7⟩ : ∃ y, xs[7]? = some y := ⟨_, List.getElem?_eq_getElem (by omega)⟩
  have g7 : DataW.trod enc Try.prog W base sp held n 4 (List.take (Try.prog.cellsOf 4) (List.drop 7 [.int .i64 n0, .int .i64 n1, .int .i64 n2, .int .i64 n3, .int .i64 n4, .int .i64 n5, .string n6, x7, x8, x9])) = some y7 := (hfs 7 _ rfl).trans hy7
  rw [c4] at g7
  obtain ⟨n7, e7, _⟩ := DataW.trod_bool Try.underlying4 g7
  obtain rfl : x7 = _ := by simpa [Value.cells] using e7
  obtain ⟨y8, hy8⟩ : ∃ y, xs[8]? = some y := ⟨_, List.getElem?_eq_getElem (by omega)⟩
  have g8 : DataW.trod enc Try.prog W base sp held n 4 (List.take (Try.prog.cellsOf 4) (List.drop 8 [.int .i64 n0, .int .i64 n1, .int .i64 n2, .int .i64 n3, .int .i64 n4, .int .i64 n5, .string n6, .bool n7, x8, x9])) = some y8 := (hfs 8 _ rfl).trans hy8
  rw [c4] at g8
  obtain ⟨n8, e8, _⟩ := DataW.trod_bool Try.underlying4 g8
  obtain rfl : x8 = _ := by simpa [Value.cells] using e8
  obtain ⟨y9, hy9⟩ : ∃ y, xs[9]? = some y := ⟨_, List.getElem?_eq_getElem (by omega)⟩
  have g9 : DataW.trod enc Try.prog W base sp held n 3 (List.take (Try.prog.cellsOf 3) (List.drop 9 [.int .i64 n0, .int .i64 n1, .int .i64 n2, .int .i64 n3, .int .i64 n4, .int .i64 n5, .string n6, .bool n7, .bool n8, x9])) = some y9 := (hfs 9 _ rfl).trans hy9
  rw [c3] at g9
  obtain ⟨n9, e9, _⟩ := DataW.trod_int Try.underlying3 g9
  obtain rfl : x9 = _ := by simpa [Value.cells] using e9
  exact ⟨n0, n1, n2, n3, n4, n5, n6, n7, n8, n9, rfl, hD⟩
theorem sixteen {cs : List Value} (h : cs.length = 16) : ∃ x0 x1 x2 x3 x4 x5 x6 x7 x8 x9 x10 x11 x12 x13 x14 x15, cs = [x0, x1, x2, x3, x4, x5, x6, x7, x8, x9, x10, x11, x12, x13, x14, x15] := by
  match cs, h with
  | [x0, x1, x2, x3, x4, x5, x6, x7, x8, x9, x10, x11, x12, x13, x14, x15], _ => exact ⟨x0, x1, x2, x3, x4, x5, x6, x7, x8, x9, x10, x11, x12, x13, x14, x15, rfl⟩
theorem open_parent {H : Type} {enc : TypeId × Value → H} {W : World} {r : Reach} {b0 base : Nat} {sp : Nat → Bool} {held : Bool} {v : Value} {d : DataW H} {ps : List MemPlace} (hval : Value.okWide Try.prog W r b0 26 v) (hd : DataW.Trod enc Try.prog W base sp held 26 v d ps) :
    ∃ (i t dv k s c : Int) (D : ByteArray) (p f : Bool) (m st lf er ea : Int) (P : ByteArray) (cp : Int), v = .agg #[.int .i64 i, .int .i64 t, .int .i64 dv, .int .i64 k, .int .i64 s, .int .i64 c, .string D, .bool p, .bool f, .int .i64 m, .int .i64 st, .int .i64 lf, .int .i64 er, .int .i64 ea, .string P, .int .i64 cp] ∧ D.size ≤ maxLen ∧ P.size ≤ maxLen := by
  obtain ⟨cs, rfl, hsz⟩ := okWide_struct Try.underlying26 hval
  obtain ⟨fuel, hf⟩ := hd
  obtain ⟨xs, n, rfl, _, hl, hlen, hfs⟩ := DataW.trod_struct Try.underlying26 hf
  have hc : Try.prog.cellsOf 26 = 16 := by kernel_rfl
  have c23 : Try.prog.cellsOf 23 = 10 := by kernel_rfl
  have c3 : Try.prog.cellsOf 3 = 1 := by kernel_rfl
  have c9 : Try.prog.cellsOf 9 = 1 := by kernel_rfl
  have c24 : Try.prog.cellsOf 24 = 1 := by kernel_rfl
  obtain ⟨l⟩ := cs
  obtain ⟨x0, x1, x2, x3, x4, x5, x6, x7, x8, x9, x10, x11, x12, x13, x14, x15, rfl⟩ := sixteen (cs := l) (hsz.trans hc)
  have hx : xs.length = 7 := hlen
  obtain ⟨y0, hy0⟩ : ∃ y, xs[0]? = some y := ⟨_, List.getElem?_eq_getElem (by omega)⟩
  have g0 : DataW.trod enc Try.prog W base sp held n 23 (List.take (Try.prog.cellsOf 23) (List.drop 0 [x0, x1, x2, x3, x4, x5, x6, x7, x8, x9, x10, x11, x12, x13, x14, x15])) = some y0 := (hfs 0 _ rfl).trans hy0
  rw [c23] at g0
  obtain ⟨i, t, dv, k, s, c, D, p, f, m, e, hD⟩ := req_cells g0
  simp only [List.drop_zero, List.take_succ_cons, List.take_zero, List.cons.injEq, and_true] at e
  obtain ⟨rfl, rfl, rfl, rfl, rfl, rfl, rfl, rfl, rfl, rfl⟩ := e
  obtain ⟨y1, hy1⟩ : ∃ y, xs[1]? = some y := ⟨_, List.getElem?_eq_getElem (by omega)⟩
  have g1 : DataW.trod enc Try.prog W base sp held n 3 (List.take (Try.prog.cellsOf 3) (List.drop 10 [.int .i64 i, .int .i64 t, .int .i64 dv, .int .i64 k, .int .i64 s, .int .i64 c, .string D, .bool p, .bool f, .int .i64 m, x10, x11, x12, x13, x14, x15])) = some y1 := (hfs 1 _ rfl).trans hy1
  rw [c3] at g1
  obtain ⟨n10, e10, _⟩ := DataW.trod_int Try.underlying3 g1
  obtain rfl : x10 = _ := by simpa using e10
  obtain ⟨y2, hy2⟩ : ∃ y, xs[2]? = some y := ⟨_, List.getElem?_eq_getElem (by omega)⟩
  have g2 : DataW.trod enc Try.prog W base sp held n 3 (List.take (Try.prog.cellsOf 3) (List.drop 11 [.int .i64 i, .int .i64 t, .int .i64 dv, .int .i64 k, .int .i64 s, .int .i64 c, .string D, .bool p, .bool f, .int .i64 m, .int .i64 n10, x11, x12, x13, x14, x15])) = some y2 := (hfs 2 _ rfl).trans hy2
  rw [c3] at g2
  obtain ⟨n11, e11, _⟩ := DataW.trod_int Try.underlying3 g2
  obtain rfl : x11 = _ := by simpa using e11
  obtain ⟨y3, hy3⟩ : ∃ y, xs[3]? = some y := ⟨_, List.getElem?_eq_getElem (by omega)⟩
  have g3 : DataW.trod enc Try.prog W base sp held n 24 (List.take (Try.prog.cellsOf 24) (List.drop 12 [.int .i64 i, .int .i64 t, .int .i64 dv, .int .i64 k, .int .i64 s, .int .i64 c, .string D, .bool p, .bool f, .int .i64 m, .int .i64 n10, .int .i64 n11, x12, x13, x14, x15])) = some y3 := (hfs 3 _ rfl).trans hy3
  rw [c24] at g3
  obtain ⟨n12, e12, _⟩ := DataW.trod_int Try.underlying24 g3
  obtain rfl : x12 = _ := by simpa using e12
  obtain ⟨y4, hy4⟩ : ∃ y, xs[4]? = some y := ⟨_, List.getElem?_eq_getElem (by omega)⟩
  have g4 : DataW.trod enc Try.prog W base sp held n 3 (List.take (Try.prog.cellsOf 3) (List.drop 13 [.int .i64 i, .int .i64 t, .int .i64 dv, .int .i64 k, .int .i64 s, .int .i64 c, .string D, .bool p, .bool f, .int .i64 m, .int .i64 n10, .int .i64 n11, .int .i64 n12, x13, x14, x15])) = some y4 := (hfs 4 _ rfl).trans hy4
  rw [c3] at g4
  obtain ⟨n13, e13, _⟩ := DataW.trod_int Try.underlying3 g4
  obtain rfl : x13 = _ := by simpa using e13
  obtain ⟨y5, hy5⟩ : ∃ y, xs[5]? = some y := ⟨_, List.getElem?_eq_getElem (by omega)⟩
  have g5 : DataW.trod enc Try.prog W base sp held n 9 (List.take (Try.prog.cellsOf 9) (List.drop 14 [.int .i64 i, .int .i64 t, .int .i64 dv, .int .i64 k, .int .i64 s, .int .i64 c, .string D, .bool p, .bool f, .int .i64 m, .int .i64 n10, .int .i64 n11, .int .i64 n12, .int .i64 n13, x14, x15])) = some y5 := (hfs 5 _ rfl).trans hy5
  rw [c9] at g5
  obtain ⟨n14, e14, _, hP⟩ := DataW.trod_string Try.underlying9 g5
  obtain rfl : x14 = _ := by simpa using e14
  obtain ⟨y6, hy6⟩ : ∃ y, xs[6]? = some y := ⟨_, List.getElem?_eq_getElem (by omega)⟩
  have g6 : DataW.trod enc Try.prog W base sp held n 3 (List.take (Try.prog.cellsOf 3) (List.drop 15 [.int .i64 i, .int .i64 t, .int .i64 dv, .int .i64 k, .int .i64 s, .int .i64 c, .string D, .bool p, .bool f, .int .i64 m, .int .i64 n10, .int .i64 n11, .int .i64 n12, .int .i64 n13, .string n14, x15])) = some y6 := (hfs 6 _ rfl).trans hy6
  rw [c3] at g6
  obtain ⟨n15, e15, _⟩ := DataW.trod_int Try.underlying3 g6
  obtain rfl : x15 = _ := by simpa using e15
  exact ⟨i, t, dv, k, s, c, D, p, f, m, n10, n11, n12, n13, n14, n15, rfl, hD, hP⟩
end Go.Proofs.Ytppkbifhhpakgaa
