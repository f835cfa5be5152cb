/- Part and the reference's Part: one contract each, of one answer. -/
import Derived.Test.YtppkbifhhpakgaaPartA
import Derived.Test.YtppkbifhhpakgaaPartC
import Derived.Test.YtppkbifhhpakgaaPartR
import Derived.Test.YtppkbifhhpakgaaPartRC
import Derived.Test.YtppkbifhhpakgaaPartRN1
import Derived.Test.YtppkbifhhpakgaaPartRN2
import Derived.Test.YtppkbifhhpakgaaPartRN3
import Derived.Test.YtppkbifhhpakgaaPartRN4
namespace Go.Proofs.Ytppkbifhhpakgaa
open Go.ChangeShapes Go.WideShapes Go.ChangeAt Go.RowKit

theorem partS_A {k c lf er ea off cnt x : Int} {P d : ByteArray} (h : fitB c = false) : partS k c lf er ea P off cnt x d = (lf, er, ea, P) := by unfold partS; rw [if_pos h]
theorem partS_B {k c lf er ea off cnt x : Int} {P d : ByteArray} (h : fitB c = true) (hx : (x == 0) = false) (h2 : (er == 0) = true ∨ off < ea) : partS k c lf er ea P off cnt x d = (wrap64 (lf - 1), x, off, P) := by
  have hx' : x ≠ 0 := by simpa using hx
  unfold partS; rw [if_neg (by simp [h]), if_pos hx', if_pos (by simpa using h2)]
theorem partS_B3 {k c lf er ea off cnt x : Int} {P d : ByteArray} (h : fitB c = true) (hx : (x == 0) = false) (h2 : (er == 0) = false) (h3 : ea ≤ off) : partS k c lf er ea P off cnt x d = (wrap64 (lf - 1), er, ea, P) := by
  have hx' : x ≠ 0 := by simpa using hx
  have he : er ≠ 0 := by simpa using h2
  unfold partS; rw [if_neg (by simp [h]), if_pos hx', if_neg (by omega)]
theorem partS_C1 {k c lf er ea off cnt x : Int} {P d : ByteArray} (h : fitB c = true) (hx : x = 0) (h2 : fitsB k c off cnt P d = true) : partS k c lf er ea P off cnt x d = (wrap64 (lf - 1), er, ea, putS P off cnt d) := by
  unfold partS; rw [if_neg (by simp [h]), if_neg (by simp [hx]), if_pos h2]
theorem partS_C2 {k c lf er ea off cnt x : Int} {P d : ByteArray} (h : fitB c = true) (hx : x = 0) (h2 : fitsB k c off cnt P d = false) : partS k c lf er ea P off cnt x d = (wrap64 (lf - 1), er, ea, P) := by
  unfold partS; rw [if_neg (by simp [h]), if_neg (by simp [hx]), if_neg (by simp [h2])]

set_option maxHeartbeats 1000000 in
theorem part_any (i t d k s c : Int) (D : ByteArray) (p f : Bool) (m : Int) (st lf er ea : Int) (P : ByteArray) (cp : Int) (off cnt x : Int) (d' : ByteArray) (w : World) (hP : P.size ≤ maxLen) (hd : d'.size ≤ maxLen) :
    Calls Try.prog 9 #[.agg #[.int .i64 i, .int .i64 t, .int .i64 d, .int .i64 k, .int .i64 s, .int .i64 c, .string D, .bool p, .bool f, .int .i64 m, .int .i64 st, .int .i64 lf, .int .i64 er, .int .i64 ea, .string P, .int .i64 cp], .int .i64 off, .int .i64 cnt, .int .i64 x, .string d'] w (RetW (.agg #[.int .i64 i, .int .i64 t, .int .i64 d, .int .i64 k, .int .i64 s, .int .i64 c, .string D, .bool p, .bool f, .int .i64 m, .int .i64 st, .int .i64 (partS k c lf er ea P off cnt x d').1, .int .i64 (partS k c lf er ea P off cnt x d').2.1, .int .i64 (partS k c lf er ea P off cnt x d').2.2.1, .string (partS k c lf er ea P off cnt x d').2.2.2, .int .i64 cp]) w) := by
  cases hc : fitB c with
  | false =>
    rw [partS_A hc]
    exact part_A i t d k s c D p f m st lf er ea P cp off cnt x d' w hc
  | true =>
    cases hx : (x == 0) with
    | false =>
      have hx' : (x != 0) = true := by simp [bne, hx]
      cases he : (er == 0) with
      | true =>
        rw [partS_B hc hx (Or.inl he)]
        exact part_B1 i t d k s c D p f m st lf er ea P cp off cnt x d' w hc hx' he
      | false =>
        by_cases ho : off < ea
        · rw [partS_B hc hx (Or.inr ho)]
          exact part_B2 i t d k s c D p f m st lf er ea P cp off cnt x d' w hc hx' he ho
        · rw [partS_B3 hc hx he (by omega)]
          exact part_B3 i t d k s c D p f m st lf er ea P cp off cnt x d' w hc hx' he (by omega)
    | true =>
      have hx' : x = 0 := by simpa using hx
      cases hf : fitsB k c off cnt P d' with
      | true =>
        rw [partS_C1 hc hx' hf]
        exact part_C1 i t d k s c D p f m st lf er ea P cp off cnt x d' w hc hx' hf hP hd
      | false =>
        rw [partS_C2 hc hx' hf]
        exact part_C2 i t d k s c D p f m st lf er ea P cp off cnt x d' w hc hx' hf hP hd

set_option maxHeartbeats 1000000 in
theorem rpart_any (i t d k s c : Int) (D : ByteArray) (p f : Bool) (m : Int) (st lf er ea : Int) (P : ByteArray) (cp : Int) (off cnt x : Int) (d' : ByteArray) (w : World) (hP : P.size ≤ maxLen) (hd : d'.size ≤ maxLen) :
    Calls Try.prog 10 #[.agg #[.int .i64 i, .int .i64 t, .int .i64 d, .int .i64 k, .int .i64 s, .int .i64 c, .string D, .bool p, .bool f, .int .i64 m, .int .i64 st, .int .i64 lf, .int .i64 er, .int .i64 ea, .string P, .int .i64 cp], .int .i64 off, .int .i64 cnt, .int .i64 x, .string d'] w (RetW (.agg #[.int .i64 i, .int .i64 t, .int .i64 d, .int .i64 k, .int .i64 s, .int .i64 c, .string D, .bool p, .bool f, .int .i64 m, .int .i64 st, .int .i64 (partS k c lf er ea P off cnt x d').1, .int .i64 (partS k c lf er ea P off cnt x d').2.1, .int .i64 (partS k c lf er ea P off cnt x d').2.2.1, .string (partS k c lf er ea P off cnt x d').2.2.2, .int .i64 cp]) w) := by
  cases hc : fitB c with
  | false =>
    rw [partS_A hc]
    exact partr_A i t d k s c D p f m st lf er ea P cp off cnt x d' w hc
  | true =>
    cases hx : (x == 0) with
    | false =>
      have hx' : (x != 0) = true := by simp [bne, hx]
      cases he : (er == 0) with
      | true =>
        rw [partS_B hc hx (Or.inl he)]
        exact partr_B1 i t d k s c D p f m st lf er ea P cp off cnt x d' w hc hx' he
      | false =>
        by_cases ho : off < ea
        · rw [partS_B hc hx (Or.inr ho)]
          exact partr_B2 i t d k s c D p f m st lf er ea P cp off cnt x d' w hc hx' he ho
        · rw [partS_B3 hc hx he (by omega)]
          exact partr_B3 i t d k s c D p f m st lf er ea P cp off cnt x d' w hc hx' he (by omega)
    | true =>
      have hx' : x = 0 := by simpa using hx
      cases hf : fitsB k c off cnt P d' with
      | true =>
        rw [partS_C1 hc hx' hf]
        exact partr_C1 i t d k s c D p f m st lf er ea P cp off cnt x d' w hc hx' hf hP hd
      | false =>
        rw [partS_C2 hc hx' hf]
        cases h0 : (k == 1) with
        | false => exact partr_N0 i t d k s c D p f m st lf er ea P cp off cnt x d' w hc hx' hP hd h0
        | true =>
          by_cases h1 : 0 ≤ off
          · by_cases h2 : 0 ≤ cnt
            · by_cases h3 : off ≤ c
              · by_cases h4 : cnt ≤ c - off
                · cases h5 : ((P.size : Int) == c * 8) with
                  | false => exact partr_N5 i t d k s c D p f m st lf er ea P cp off cnt x d' w hc hx' hP hd h0 h1 h2 h3 h4 h5
                  | true =>
                    cases h6 : ((d'.size : Int) == cnt * 8) with
                    | false => exact partr_N6 i t d k s c D p f m st lf er ea P cp off cnt x d' w hc hx' hP hd h0 h1 h2 h3 h4 h5 h6
                    | true =>
                      exfalso
                      have e : fitsB k c off cnt P d' = true := by
                        have g1 : cnt ≤ c := by omega
                        have g2 : off ≤ c - cnt := by omega
                        unfold fitsB; rw [h0, h5, h6]; simp [h1, h2, g1, g2]
                      rw [e] at hf; cases hf
                · exact partr_N4 i t d k s c D p f m st lf er ea P cp off cnt x d' w hc hx' hP hd h0 h1 h2 h3 (by omega)
              · exact partr_N3 i t d k s c D p f m st lf er ea P cp off cnt x d' w hc hx' hP hd h0 h1 h2 (by omega)
            · exact partr_N2 i t d k s c D p f m st lf er ea P cp off cnt x d' w hc hx' hP hd h0 h1 (by omega)
          · exact partr_N1 i t d k s c D p f m st lf er ea P cp off cnt x d' w hc hx' hP hd h0 (by omega)
end Go.Proofs.Ytppkbifhhpakgaa
