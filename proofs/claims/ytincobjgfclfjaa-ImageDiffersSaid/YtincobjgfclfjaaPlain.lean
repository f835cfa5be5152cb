/- Plain laws of layer 19: images as lists of bytes. -/
import Derived.Test.YtincobjgfclfjaaHalf
namespace Go.Proofs.Ytincobjgfclfjaa
open Go.ChangeShapes Go.WideShapes Go.ChangeAt Go.RowKit

def mk (l : List UInt8) : ByteArray := ⟨l.toArray⟩
theorem mk_of (a : ByteArray) : a = mk a.data.toList := by unfold mk; apply ByteArray.ext; simp
theorem mk_size (l : List UInt8) : (mk l).size = l.length := by simp [mk, ByteArray.size]
theorem mk_app (l m : List UInt8) : mk l ++ mk m = mk (l ++ m) := by unfold mk; apply ByteArray.ext; simp [ByteArray.data_append]
theorem mk_ext (l : List UInt8) (i j : Nat) : (mk l).extract i j = mk ((l.drop i).take (j - i)) := by
  unfold mk; apply ByteArray.ext; rw [ByteArray.data_extract]
  apply Array.ext'
  simp [Array.toList_extract, List.extract_eq_take_drop]
theorem mk_inj {l m : List UInt8} (h : l = m) : mk l = mk m := by rw [h]

/-- an image cut around a run of m bytes behind p -/
theorem cut3 (a : ByteArray) (p m : Nat) (h : p + m ≤ a.size) : ∃ X O Y : List UInt8, a = mk (X ++ (O ++ Y)) ∧ X.length = p ∧ O.length = m ∧ Y.length = a.size - (p + m) := by
  have hl : a.data.toList.length = a.size := Array.length_toList
  refine ⟨a.data.toList.take p, (a.data.toList.drop p).take m, a.data.toList.drop (p + m), ?_, ?_, ?_, ?_⟩
  · have e1 : a.data.toList.drop (p + m) = (a.data.toList.drop p).drop m := by rw [List.drop_drop]
    rw [e1, List.take_append_drop, List.take_append_drop]
    exact mk_of a
  · rw [List.length_take, hl]; omega
  · rw [List.length_take, List.length_drop, hl]; omega
  · rw [List.length_drop, hl]

/-- what Write gives where it writes -/
theorem write_mk {X O Y D : List UInt8} {p : Nat} {s : Int} (hX : X.length = p) (hp : (p : Int) = s * 8) (hO : O.length = D.length) (hD : D.length % 8 = 0) (hw : writeB (mk (X ++ (O ++ Y))).size (mk D).size s = true) :
    writeS (mk (X ++ (O ++ Y))) s (mk D) = (mk (X ++ (D ++ Y)), true) := by
  unfold writeS
  rw [if_pos hw]
  have e1 : (s * 8).toNat = p := by omega
  have e2 : ((s + ((mk D).size : Int) / 8) * 8).toNat = p + D.length := by rw [mk_size]; omega
  rw [e1, e2, mk_ext, mk_ext, mk_app, mk_app, mk_size]
  congr 1
  apply mk_inj
  have t1 : List.take (p - 0) (List.drop 0 (X ++ (O ++ Y))) = X := by rw [List.drop_zero, Nat.sub_zero, List.take_append_of_le_length (by omega), List.take_of_length_le (by omega)]
  have t2 : List.drop (p + D.length) (X ++ (O ++ Y)) = Y := by
    rw [List.drop_append, List.drop_of_length_le (by omega), List.nil_append, List.drop_append, List.drop_of_length_le (by omega), List.nil_append, show p + D.length - X.length - O.length = 0 from by omega, List.drop_zero]
  rw [t1, t2, List.take_of_length_le (by simp; omega)]
  simp
theorem read_mk {X O Y : List UInt8} {p : Nat} {s c : Int} (hX : X.length = p) (hp : (p : Int) = s * 8) (hO : (O.length : Int) = c * 8) (hc : okB (mk (X ++ (O ++ Y))).size s c = true) :
    readS (mk (X ++ (O ++ Y))) s c = (mk O, true) := by
  unfold readS
  rw [if_pos hc]
  have e1 : (s * 8).toNat = p := by omega
  have e2 : ((s + c) * 8).toNat = p + O.length := by omega
  rw [e1, e2, mk_ext]
  congr 1
  apply mk_inj
  have t2 : List.drop p (X ++ (O ++ Y)) = O ++ Y := by rw [List.drop_append, List.drop_of_length_le (by omega), List.nil_append, show p - X.length = 0 from by omega, List.drop_zero]
  rw [t2, show p + O.length - p = O.length from by omega, List.take_append_of_le_length (by omega), List.take_of_length_le (by omega)]

/-- ImageHalves, in plain words -/
theorem halves (a d : ByteArray) (σ : Nat) (hok : okB a.size (σ : Int) 1 = true) (hd : d.size = 8) :
    ∃ b c, halfS a (σ : Int) d = (b, true) ∧ writeS b (σ : Int) d = (c, true) ∧ writeS a (σ : Int) d = (c, true) ∧ b.size = a.size ∧ b.extract 0 (σ * 8) = a.extract 0 (σ * 8) ∧
      b.extract (σ * 8) (σ * 8 + 4) = d.extract 0 4 ∧ b.extract (σ * 8 + 4) b.size = a.extract (σ * 8 + 4) a.size := by
  have hb := ok_bd hok
  obtain ⟨X, O, Y, ha, hX, hO, hY⟩ := cut3 a (σ * 8) 8 (by omega)
  obtain ⟨O0, O1, O2, hO', hO0, hO1, hO2⟩ := cut3 (mk O) 0 4 (by rw [mk_size]; omega)
  obtain ⟨D0, D1, D2, hD', hD0, hD1, hD2⟩ := cut3 d 0 4 (by omega)
  have zO : O0 = [] := List.length_eq_zero_iff.1 hO0
  have zD : D0 = [] := List.length_eq_zero_iff.1 hD0
  subst zO zD
  rw [mk_size, hO] at hO2
  rw [hd] at hD2
  have eO : O = O1 ++ O2 := by
    have := congrArg (fun x : ByteArray => x.data.toList) hO'
    simpa [mk] using this
  simp only [List.nil_append] at hD'
  have hsz : a.size = (X ++ (O ++ Y)).length := by rw [ha, mk_size]
  have hw8 : ∀ (B : ByteArray), B.size = a.size → ∀ (E : ByteArray), E.size = 8 → writeB B.size E.size (σ : Int) = true := by
    intro B hB E hE
    unfold writeB
    rw [hB, hE]
    have : ((8 : Nat) : Int) / 8 = 1 := by decide
    rw [this, hok]; rfl
  have hT : tornS d (mk O) = mk (D1 ++ O2) := by
    unfold tornS
    rw [hD', mk_ext, mk_ext, mk_app, mk_size, eO]
    apply mk_inj
    congr 1
    · rw [List.drop_zero, List.take_append_of_le_length (by omega), List.take_of_length_le (by omega)]
    · rw [List.drop_append, List.drop_of_length_le (by omega), List.nil_append, show 4 - O1.length = 0 from by omega, List.drop_zero, List.take_of_length_le (by simp; omega)]
  have hr : readS a (σ : Int) 1 = (mk O, true) := by
    rw [ha] at hok ⊢
    exact read_mk hX (by omega) (by omega) hok
  have hD8 : (D1 ++ D2).length = 8 := by simp; omega
  have hT8 : (D1 ++ O2).length = 8 := by simp; omega
  have hA : ∀ E : List UInt8, E.length = 8 → writeS a (σ : Int) (mk E) = (mk (X ++ (E ++ Y)), true) := by
    intro E hE
    have := hw8 a rfl (mk E) (by rw [mk_size]; exact hE)
    rw [ha] at this ⊢
    exact write_mk hX (by omega) (by omega) (by omega) this
  refine ⟨mk (X ++ ((D1 ++ O2) ++ Y)), mk (X ++ ((D1 ++ D2) ++ Y)), ?_, ?_, ?_, ?_, ?_, ?_, ?_⟩
  · rw [half_yes hok (by simp; omega) hr, hT]; exact hA _ hT8
  · rw [hD']
    exact write_mk hX (by omega) (by omega) (by omega) (hw8 _ (by rw [mk_size, hsz]; simp; omega) _ (by rw [mk_size]; exact hD8))
  · rw [hD']; exact hA _ hD8
  · rw [mk_size, hsz]; simp; omega
  · rw [ha, mk_ext, mk_ext]
    apply mk_inj
    rw [List.drop_zero, List.drop_zero, List.take_append_of_le_length (by omega), List.take_append_of_le_length (by omega)]
  · rw [hD', mk_ext, mk_ext]
    apply mk_inj
    rw [List.drop_append, List.drop_of_length_le (by omega), List.nil_append, show σ * 8 - X.length = 0 from by omega, List.drop_zero, List.drop_zero, List.append_assoc, List.take_append_of_le_length (by omega), List.take_append_of_le_length (by omega)]
    congr 1; omega
  · rw [ha, mk_ext, mk_ext, mk_size, mk_size, eO]
    apply mk_inj
    rw [List.drop_append, List.drop_of_length_le (by omega), List.drop_append (l₁ := X), List.drop_of_length_le (l := X) (by omega)]
    simp only [List.nil_append, List.append_assoc]
    rw [List.drop_append (l₁ := D1), List.drop_of_length_le (l := D1) (by omega), List.drop_append (l₁ := O1), List.drop_of_length_le (l := O1) (by omega)]
    simp only [List.nil_append]
    rw [show σ * 8 + 4 - X.length - D1.length = 0 from by omega, show σ * 8 + 4 - X.length - O1.length = 0 from by omega]
    simp only [List.drop_zero]
    rw [List.take_of_length_le (by simp; omega), List.take_of_length_le (by simp; omega)]
end Go.Proofs.Ytincobjgfclfjaa
