/- What filling and writing make of right pages: plain facts, no program in sight. -/
import Derived.Test.YthimcidkmnobnaaFir
namespace Go.Proofs.Ythimcidkmnobnaa
open Go.ChangeShapes Go.WideShapes Go.ChangeAt Go.RowKit

/-- a page of sixteen bytes, with its valid and its dirty sectors -/
def RP (f : Nat → UInt8) (a b x y : Bool) : Pg := ⟨mk16 f, sb a b, sb x y⟩
theorem RP_ext {f g : Nat → UInt8} {a b x y : Bool} (h : ∀ i, i < 16 → f i = g i) : RP f a b x y = RP g a b x y := by unfold RP; rw [mk16_ext h]
theorem chk_RP (f : Nat → UInt8) {a b x y : Bool} (h1 : (x && !a) = false) (h2 : (y && !b) = false) : chk (RP f a b x y) = true := right_chk (mk16_size f) h1 h2
theorem RP_of {p : Pg} (h : chk p = true) : ∃ f a b x y, p = RP f a b x y ∧ (x && !a) = false ∧ (y && !b) = false := by
  obtain ⟨d, a, b, x, y, rfl, h1, h2, h3⟩ := chk_right h
  exact ⟨bat d, a, b, x, y, by unfold RP; rw [mk16_bat h1], h2, h3⟩
theorem RP_size (f : Nat → UInt8) (a b x y : Bool) : (RP f a b x y).d.size = 16 := mk16_size f

def nA (off n : Int) (wr : Bool) : Bool := tA off n && !(wr && cA off n)
def nB (off n : Int) (wr : Bool) : Bool := tB off n && !(wr && cB off n)
theorem needS_sb (off n : Int) (wr : Bool) : needS off n wr = sb (nA off n wr) (nB off n wr) := by
  unfold needS nA nB
  cases wr with
  | false => simp
  | true => rw [if_pos rfl, sb_andNot]; simp
theorem needV_RP (f : Nat → UInt8) {a b x y : Bool} (h1 : (x && !a) = false) (h2 : (y && !b) = false) (off n : Int) (wr : Bool) (hr : rng off n = true) :
    needV (RP f a b x y) off n wr = (sb (nA off n wr && !a) (nB off n wr && !b), 0) := by
  unfold needV
  rw [if_pos (chk_RP f h1 h2), if_pos hr, needS_sb]
  show (bits .andNot .i64 (sb _ _) (sb a b), (0 : Int)) = _
  rw [sb_andNot]
theorem readyV_RP (f : Nat → UInt8) {a b x y : Bool} (h1 : (x && !a) = false) (h2 : (y && !b) = false) (off n : Int) (wr : Bool) (hr : rng off n = true)
    (ha : (nA off n wr && !a) = false) (hb : (nB off n wr && !b) = false) : readyV (RP f a b x y) off n wr = 0 := by
  unfold readyV
  rw [needV_RP f h1 h2 off n wr hr, ha, hb]; rfl
theorem busyV_RP (f : Nat → UInt8) {a b x y : Bool} (h1 : (x && !a) = false) (h2 : (y && !b) = false) (off n : Int) (wr : Bool) (hr : rng off n = true)
    (h : (nA off n wr && !a) = true ∨ (nB off n wr && !b) = true) : readyV (RP f a b x y) off n wr = 7 := by
  unfold readyV
  rw [needV_RP f h1 h2 off n wr hr]
  simp only [if_true]
  rw [if_neg]
  rw [sb_zero]
  rintro ⟨h3, h4⟩
  rcases h with h | h
  · rw [h] at h3; cases h3
  · rw [h] at h4; cases h4
/-- s written at off -/
def putF (f : Nat → UInt8) (off : Int) (s : ByteArray) (i : Nat) : UInt8 := if off ≤ i ∧ (i : Int) < off + s.size then bat s (i - off.toNat) else f i
theorem put_data (f : Nat → UInt8) (off : Int) (s : ByteArray) (h0 : 0 ≤ off) (h1 : off + s.size ≤ 16) :
    (mk16 f).extract 0 off.toNat ++ s ++ (mk16 f).extract (off + s.size).toNat (mk16 f).size = mk16 (putF f off s) := by
  obtain ⟨o, rfl⟩ := Int.eq_ofNat_of_zero_le h0
  have e1 : ((o : Int) + s.size).toNat = o + s.size := by omega
  have e2 : (o : Int).toNat = o := by omega
  rw [e1, e2, mk16_size]
  have hs : s.data.toList.length = s.size := size_eq_list s
  have ho : o + s.size ≤ 16 := by omega
  suffices h : ((mk16 f).extract 0 o ++ s ++ (mk16 f).extract (o + s.size) 16).data.toList = (mk16 (putF f o s)).data.toList by
    have h2 : ((mk16 f).extract 0 o ++ s ++ (mk16 f).extract (o + s.size) 16).data = (mk16 (putF f o s)).data := by
      rw [← Array.toList_inj]; exact h
    cases hA : ((mk16 f).extract 0 o ++ s ++ (mk16 f).extract (o + s.size) 16) with
    | mk dd => rw [hA] at h2; cases hB : mk16 (putF f o s) with
      | mk d2 => rw [hB] at h2; simp only at h2; rw [h2]
  have hm : ∀ g : Nat → UInt8, (mk16 g).data.toList = (List.range 16).map g := fun g => by simp [mk16]
  rw [ByteArray.data_append, ByteArray.data_append, Array.toList_append, Array.toList_append, ByteArray.data_extract, ByteArray.data_extract, Array.toList_extract, Array.toList_extract, hm, hm]
  apply List.ext_getElem
  · simp [hs]; omega
  · intro i h1 h2
    have hi : i < 16 := by simpa using h2
    simp only [List.getElem_append, List.extract_eq_take_drop, List.length_append, List.length_take, List.length_drop, List.length_map, List.length_range, hs]
    simp only [List.getElem_map, List.getElem_range, List.getElem_take, List.getElem_drop]
    unfold putF
    by_cases c1 : i < o
    · rw [dif_pos (by omega), dif_pos (by omega), if_neg (by omega)]; simp
    · by_cases c2 : i < o + s.size
      · rw [dif_pos (by omega), dif_neg (by omega), if_pos (by omega), e2]
        have : i - (min (o - 0) (16 - 0)) = i - o := by omega
        simp only [this]
        have hl : i - o < s.data.toList.length := by omega
        simp [bat, List.getD, List.getElem?_eq_getElem hl]
      · rw [dif_neg (by omega), if_neg (by omega)]
        congr 1
        omega
theorem writeV_RP (f : Nat → UInt8) {a b x y : Bool} (h1 : (x && !a) = false) (h2 : (y && !b) = false) (off : Int) (s : ByteArray) (hr : rng off s.size = true)
    (ha : (nA off s.size true && !a) = false) (hb : (nB off s.size true && !b) = false) :
    writeV (RP f a b x y) off s = (RP (putF f off s) (a || tA off s.size) (b || tB off s.size) (x || tA off s.size) (y || tB off s.size), 0) := by
  obtain ⟨r0, r1, r2, r3⟩ := rng_iff.1 hr
  unfold writeV
  rw [if_pos (readyV_RP f h1 h2 off s.size true hr ha hb)]
  unfold writeP
  show ((⟨(mk16 f).extract 0 off.toNat ++ s ++ (mk16 f).extract (off + s.size).toNat (mk16 f).size, bits .or .i64 (sb a b) _, bits .or .i64 (sb x y) _⟩ : Pg), (0 : Int)) = _
  rw [put_data f off s r0 (by omega), sb_or, sb_or]
  try rfl
theorem fillV_RP (f : Nat → UInt8) {a b x y : Bool} (h1 : (x && !a) = false) (h2 : (y && !b) = false) (s0 s1 : Bool) (data : ByteArray) (hd : data.size = 16) :
    fillV (RP f a b x y) (sb s0 s1) data = (RP (fun i => if (if i < 8 then s0 && !a else s1 && !b) = true then bat data i else f i) (a || s0) (b || s1) x y, 0) := by
  unfold fillV
  rw [if_pos (chk_RP f h1 h2), if_pos ⟨by rw [isSet_iff]; exact sb_bd s0 s1, hd⟩]
  show ((⟨mk16 (fillX (mk16 f) data (wants (sb s0 s1) (sb a b) 1) (wants (sb s0 s1) (sb a b) 2)), bits .or .i64 (sb a b) (sb s0 s1), sb x y⟩ : Pg), (0 : Int)) = _
  rw [wants1, wants2, sb_or]
  unfold RP
  have e : ∀ X Y : Bool, mk16 (fillX (mk16 f) data X Y) = mk16 (fun i => if (if i < 8 then X else Y) = true then bat data i else f i) := fun X Y => mk16_ext fun i hi => by
    unfold fillX
    rw [bat_mk16 f hi]
  rw [e]

/-- the law PageExchange -/
theorem exchange_plain {p : Pg} (h : chk p = true) (s1 s2 : ByteArray) (hs1 : s1.size = 8) (hs2 : s2.size = 8) :
    ∃ A B C : Pg, writeV p 0 s1 = (A, 0) ∧ writeV A 8 s2 = (B, 0) ∧ writeV p 8 s2 = (C, 0) ∧ writeV C 0 s1 = (B, 0) ∧ p.d.size = 16 ∧ A.d.size = 16 ∧ C.d.size = 16 ∧
      ∀ disk : ByteArray, disk.size = 16 → ∃ F U : Pg, fillV A 2 disk = (U, 0) ∧ fillV p 2 disk = (F, 0) ∧ writeV F 0 s1 = (U, 0) ∧ F.d.size = 16 := by
  obtain ⟨f, a, b, x, y, rfl, h1, h2⟩ := RP_of h
  have t1 : tA 0 s1.size = true := by rw [hs1]; decide
  have t2 : tB 0 s1.size = false := by rw [hs1]; decide
  have t3 : tA 8 s2.size = false := by rw [hs2]; decide
  have t4 : tB 8 s2.size = true := by rw [hs2]; decide
  have n1 : nA 0 s1.size true = false := by rw [hs1]; decide
  have n2 : nB 0 s1.size true = false := by rw [hs1]; decide
  have n3 : nA 8 s2.size true = false := by rw [hs2]; decide
  have n4 : nB 8 s2.size true = false := by rw [hs2]; decide
  have r1 : rng 0 s1.size = true := by rw [hs1]; decide
  have r2 : rng 8 s2.size = true := by rw [hs2]; decide
  have w0 : ∀ (f : Nat → UInt8) (a b x y : Bool), (x && !a) = false → (y && !b) = false → writeV (RP f a b x y) 0 s1 = (RP (putF f 0 s1) true b true y, 0) := by
    intro f a b x y h1 h2
    rw [writeV_RP f h1 h2 0 s1 r1 (by rw [n1]; rfl) (by rw [n2]; rfl), t1, t2]
    simp
  have w8 : ∀ (f : Nat → UInt8) (a b x y : Bool), (x && !a) = false → (y && !b) = false → writeV (RP f a b x y) 8 s2 = (RP (putF f 8 s2) a true x true, 0) := by
    intro f a b x y h1 h2
    rw [writeV_RP f h1 h2 8 s2 r2 (by rw [n3]; rfl) (by rw [n4]; rfl), t3, t4]
    simp
  have fl : ∀ (disk : ByteArray), disk.size = 16 → ∀ (f : Nat → UInt8) (a b x y : Bool), (x && !a) = false → (y && !b) = false → fillV (RP f a b x y) 2 disk = (RP (fun i => if (if i < 8 then false else !b) = true then bat disk i else f i) a true x y, 0) := by
    intro disk hd f a b x y h1 h2
    have := fillV_RP f h1 h2 false true disk hd
    rw [show sb false true = 2 from rfl] at this
    rw [this]
    simp
  refine ⟨_, _, _, w0 f a b x y h1 h2, w8 _ _ _ _ _ rfl h2, w8 f a b x y h1 h2, ?_, mk16_size _, mk16_size _, mk16_size _, fun disk hd => ⟨_, _, fl disk hd _ _ _ _ _ rfl h2, fl disk hd f a b x y h1 h2, ?_, mk16_size _⟩⟩
  · rw [w0 _ _ _ _ _ h1 rfl]
    rw [RP_ext]
    intro i hi
    unfold putF
    rw [hs1, hs2]
    by_cases c : i < 8
    · rw [if_pos (by omega), if_neg (by omega), if_pos (by omega)]
    · rw [if_neg (by omega), if_pos (by omega), if_pos (by omega)]
  · rw [w0 _ _ _ _ _ h1 (by simp)]
    rw [RP_ext]
    intro i hi
    unfold putF
    rw [hs1]
    by_cases c : i < 8
    · simp only [c, if_true]; simp; try omega
    · have c2 : ¬ (0 ≤ (i : Int) ∧ (i : Int) < 0 + ((8 : Nat) : Int)) := by omega
      simp only [c, if_false, if_neg c2]
end Go.Proofs.Ythimcidkmnobnaa
