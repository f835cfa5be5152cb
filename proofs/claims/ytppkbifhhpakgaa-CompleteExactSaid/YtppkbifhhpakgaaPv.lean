/- Layer 35: a parent in a block of its own; the contracts in its terms. -/
import Derived.Test.YtppkbifhhpakgaaBegC
import Derived.Test.YtppkbifhhpakgaaPartAll
import Derived.Test.YtppkbifhhpakgaaAns
import Derived.Test.YtppkbifhhpakgaaLaw
namespace Go.Proofs.Ytppkbifhhpakgaa
open Go.ChangeShapes Go.WideShapes Go.ChangeAt Go.RowKit

/-- a parent whose request has the number, kind and count given -/
def PV (id k c lf er ea : Int) (P : ByteArray) : List Value := [.int .i64 id, .int .i64 0, .int .i64 0, .int .i64 k, .int .i64 0, .int .i64 c, .string ⟨#[]⟩, .bool false, .bool false, .int .i64 0, .int .i64 0, .int .i64 lf, .int .i64 er, .int .i64 ea, .string P, .int .i64 0]
theorem PV_size (id k c lf er ea : Int) (P : ByteArray) : (Try.prog.info? 26).map (·.size) = some (PV id k c lf er ea P).length := size26
theorem PV_size' (id k c lf er ea : Int) (P : ByteArray) : (Try.prog.info? 26).map (·.size) = some (PV id k c lf er ea P).toArray.size := size26
theorem PV_one (id k c lf er ea : Int) (P : ByteArray) : (PV id k c lf er ea P).toArray.all (·.oneCell') = true := by simp [PV, Value.oneCell']
theorem PV_len (id k c lf er ea : Int) (P : ByteArray) : (PV id k c lf er ea P).length = 16 := rfl
theorem part_pv (id k c lf er ea : Int) (P : ByteArray) (off cnt x : Int) (d' : ByteArray) (w : World) (hP : P.size ≤ maxLen) (hd : d'.size ≤ maxLen) :
    Calls Try.prog 9 #[.agg (PV id k c lf er ea P).toArray, .int .i64 off, .int .i64 cnt, .int .i64 x, .string d'] w
      (RetW (.agg (PV id k c (partS k c lf er ea P off cnt x d').1 (partS k c lf er ea P off cnt x d').2.1 (partS k c lf er ea P off cnt x d').2.2.1 (partS k c lf er ea P off cnt x d').2.2.2).toArray) w) :=
  part_any id 0 0 k 0 c ⟨#[]⟩ false false 0 0 lf er ea P 0 off cnt x d' w hP hd
theorem rpart_pv (id k c lf er ea : Int) (P : ByteArray) (off cnt x : Int) (d' : ByteArray) (w : World) (hP : P.size ≤ maxLen) (hd : d'.size ≤ maxLen) :
    Calls Try.prog 10 #[.agg (PV id k c lf er ea P).toArray, .int .i64 off, .int .i64 cnt, .int .i64 x, .string d'] w
      (RetW (.agg (PV id k c (partS k c lf er ea P off cnt x d').1 (partS k c lf er ea P off cnt x d').2.1 (partS k c lf er ea P off cnt x d').2.2.1 (partS k c lf er ea P off cnt x d').2.2.2).toArray) w) :=
  rpart_any id 0 0 k 0 c ⟨#[]⟩ false false 0 0 lf er ea P 0 off cnt x d' w hP hd
theorem answer_pv (id k c lf er ea : Int) (P : ByteArray) (now : Int) (w : World) :
    Calls Try.prog 11 #[.agg (PV id k c lf er ea P).toArray, .int .i64 now] w (RetW (.agg #[.int .i64 id, .int .i64 er, .string (ansS k er P), .int .i64 now]) w) :=
  answer_any id 0 0 k 0 c ⟨#[]⟩ false false 0 0 lf er ea P 0 now w
theorem ranswer_pv (id k c lf er ea : Int) (P : ByteArray) (now : Int) (w : World) :
    Calls Try.prog 12 #[.agg (PV id k c lf er ea P).toArray, .int .i64 now] w (RetW (.agg #[.int .i64 id, .int .i64 er, .string (ansS k er P), .int .i64 now]) w) :=
  ranswer_any id 0 0 k 0 c ⟨#[]⟩ false false 0 0 lf er ea P 0 now w
/-- the request of a parent -/
def RV (id k c : Int) : List Value := [.int .i64 id, .int .i64 0, .int .i64 0, .int .i64 k, .int .i64 0, .int .i64 c, .string ⟨#[]⟩, .bool false, .bool false, .int .i64 0]
def begP (k c : Int) : ByteArray := if k = 1 then zeros (c * 8).toNat else ⟨#[]⟩
theorem begin_pv (id k c : Int) (w : World) (h0 : 0 ≤ c) (h1 : c ≤ 128) : Calls Try.prog 7 #[.agg (RV id k c).toArray] w (RetW (.agg (PV id k c 0 0 0 (begP k c)).toArray) w) := by
  have hf : fitB c = true := by unfold fitB; simp; omega
  unfold begP
  by_cases hk : k = 1
  · rw [if_pos hk]; exact begin_C id 0 0 k 0 c ⟨#[]⟩ false false 0 w hf (by simpa using hk) h0 h1
  · rw [if_neg hk]; exact begin_B id 0 0 k 0 c ⟨#[]⟩ false false 0 w hf (by simpa using hk)
theorem rbegin_pv (id k c : Int) (w : World) (h0 : 0 ≤ c) (h1 : c ≤ 128) : Calls Try.prog 8 #[.agg (RV id k c).toArray] w (RetW (.agg (PV id k c 0 0 0 (begP k c)).toArray) w) := by
  have hf : fitB c = true := by unfold fitB; simp; omega
  unfold begP
  by_cases hk : k = 1
  · rw [if_pos hk]; exact beginr_C id 0 0 k 0 c ⟨#[]⟩ false false 0 w hf (by simpa using hk) h0 h1
  · rw [if_neg hk]; exact beginr_B id 0 0 k 0 c ⟨#[]⟩ false false 0 w hf (by simpa using hk)
theorem load_pv {ops : Array Oper} {rest : List Oper} {op : Oper} {a : Act} {w : World} {Q : Exit → Act → World → Prop} {x : Operand} {b : Nat} {id k c lf er ea : Int} {P : ByteArray}
    (h : At w b (PV id k c lf er ea P)) (hx : a.eval x = .pointer (some ⟨b, 0, none⟩)) (hg : op.guard = none) (ho : op.op = .load 26 x)
    (hn : wpList Try.prog ops Q rest (a.put op.dst (.agg (PV id k c lf er ea P).toArray)) w) : Hid (wpList Try.prog ops Q (op :: rest) a w) :=
  wpList_load_mid hg 26 x ho b 0 hx _ _ h.r Try.underlying26 rfl size26 hn
theorem store_pv {ops : Array Oper} {rest : List Oper} {op : Oper} {a : Act} {w : World} {Q : Exit → Act → World → Prop} {x y : Operand} {b : Nat} {cs : List Value} {id k c lf er ea : Int} {P : ByteArray}
    (h : At w b cs) (hl : cs.length = 16) (hx : a.eval x = .pointer (some ⟨b, 0, none⟩)) (hy : a.eval y = .agg (PV id k c lf er ea P).toArray) (hg : op.guard = none) (ho : op.op = .store 26 x y)
    (hn : ∀ w', w' = w.setCells b 0 (PV id k c lf er ea P) → At w' b (PV id k c lf er ea P) → wpList Try.prog ops Q rest (a.put op.dst undef) w') : Hid (wpList Try.prog ops Q (op :: rest) a w) :=
  wpList_store_mid hg 26 x y ho b 0 _ hx hy (by rw [show (PV id k c lf er ea P).toArray.size = cs.length from hl.symm]; exact h.t) size26 (PV_one ..) (hn _ rfl (h.store _ hl.symm))
end Go.Proofs.Ytppkbifhhpakgaa
