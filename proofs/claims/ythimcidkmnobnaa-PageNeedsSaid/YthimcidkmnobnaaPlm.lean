/- Plain facts for the laws on dirty sectors, on needs and on histories. -/
import Derived.Test.YthimcidkmnobnaaPln
import Derived.Test.YthimcidkmnobnaaNew
namespace Go.Proofs.Ythimcidkmnobnaa
open Go.ChangeShapes Go.WideShapes Go.ChangeAt Go.RowKit

theorem zeros_mk : zeros 16 = mk16 (fun _ => 0) := by kernel_rfl
theorem fill_new (disk : ByteArray) (hd : disk.size = 16) : fillV ⟨zeros 16, 0, 0⟩ 3 disk = (⟨disk, 3, 0⟩, 0) := by
  have := fillV_RP (fun _ => 0) (a := false) (b := false) (x := false) (y := false) rfl rfl true true disk hd
  rw [zeros_mk]
  rw [show (⟨mk16 (fun _ => 0), 0, 0⟩ : Pg) = RP (fun _ => 0) false false false false from rfl, show (3 : Int) = sb true true from rfl, this]
  have h2 : RP (fun i => if (if i < 8 then true && !false else true && !false) = true then bat disk i else 0) (false || true) (false || true) false false = ⟨disk, sb true true, 0⟩ := by
    rw [RP_ext (g := bat disk) (fun i hi => by simp)]
    unfold RP
    rw [mk16_bat hd]; rfl
  rw [h2]
theorem dirty_plain (disk s : ByteArray) (off : Int) (hd : disk.size = 16) (h0 : 0 ≤ off) (h1 : off + s.size ≤ 16) :
    ∃ (Q : ByteArray) (X : Int), writeV ⟨disk, 3, 0⟩ off s = (⟨Q, 3, X⟩, 0) ∧ Q.size = 16 ∧ cleanV ⟨Q, 3, X⟩ 3 = (⟨Q, 3, 0⟩, 0) ∧
      ∀ i, i < 16 → bat Q i ≠ bat disk i → bits .and .i64 X (if i < 8 then 1 else 2) ≠ 0 := by
  have e1 : (⟨disk, 3, 0⟩ : Pg) = RP (bat disk) true true false false := by unfold RP; rw [mk16_bat hd]; rfl
  have hr : rng off s.size = true := rng_iff.2 ⟨h0, by omega, by omega, by omega⟩
  have hw := writeV_RP (bat disk) (a := true) (b := true) (x := false) (y := false) rfl rfl off s hr (by simp) (by simp)
  refine ⟨mk16 (putF (bat disk) off s), sb (tA off s.size) (tB off s.size), ?_, mk16_size _, ?_, ?_⟩
  · rw [e1, hw]; simp [RP]; rfl
  · unfold cleanV sectorsV
    have hc : chk ⟨mk16 (putF (bat disk) off s), 3, sb (tA off s.size) (tB off s.size)⟩ = true := right_chk (a := true) (b := true) (mk16_size _) (by simp) (by simp)
    rw [if_pos hc]
    rw [show isSet 3 = true from by decide]
    simp only [if_true]
    rw [show (3 : Int) = sb true true from rfl, sb_andNot]
    simp
    rfl
  · intro i hi hne
    rw [bat_mk16 _ hi] at hne
    have hin : off ≤ i ∧ (i : Int) < off + s.size := by
      apply Classical.byContradiction
      intro hn
      exact hne (by unfold putF; rw [if_neg hn])
    by_cases h8 : i < 8
    · rw [if_pos h8, and1, show tA off s.size = true from by unfold tA; simp; omega]; simp
    · rw [if_neg h8, and2, show tB off s.size = true from by unfold tB; simp; omega]; simp

theorem write_e (p : Pg) (off : Int) (s : ByteArray) : (writeV p off s).2 = readyV p off s.size true := by
  unfold writeV; split
  · rename_i h; rw [h]
  · rfl
theorem read_e (p : Pg) (off n : Int) : (readV p off n).2 = readyV p off n false := by
  unfold readV; split
  · rename_i h; rw [h]
  · rfl
theorem needs_bad {p : Pg} (h : chk p = false) (off n : Int) (wr : Bool) : needV p off n wr = (0, 1) := by unfold needV; rw [h]; rfl
theorem needs_plain {p : Pg} (h : chk p = true) (off n : Int) (wr : Bool) (hr : rng off n = true) :
    ∃ u0 u1 : Bool, needV p off n wr = (sb u0 u1, 0) ∧ p.d.size = 16 ∧ (p.v = 3 → u0 = false ∧ u1 = false) ∧
      (∀ data : ByteArray, data.size = 16 → ∃ F : Pg, fillV p (sb u0 u1) data = (F, 0) ∧ F.d.size = 16 ∧ readyV F off n wr = 0) ∧
      (u0 = true → ∀ data : ByteArray, data.size = 16 → ∃ F : Pg, fillV p (sb false u1) data = (F, 0) ∧ F.d.size = 16 ∧ readyV F off n wr = 7) ∧
      (u1 = true → ∀ data : ByteArray, data.size = 16 → ∃ F : Pg, fillV p (sb u0 false) data = (F, 0) ∧ F.d.size = 16 ∧ readyV F off n wr = 7) := by
  obtain ⟨f, a, b, x, y, rfl, h1, h2⟩ := RP_of h
  have k1 : ∀ s0 : Bool, (x && !(a || s0)) = false := by intro s0; revert h1; cases x <;> cases a <;> simp
  have k2 : ∀ s1 : Bool, (y && !(b || s1)) = false := by intro s1; revert h2; cases y <;> cases b <;> simp
  refine ⟨nA off n wr && !a, nB off n wr && !b, needV_RP f h1 h2 off n wr hr, mk16_size _, ?_, ?_, ?_, ?_⟩
  · intro hv
    have : sb a b = 3 := hv
    revert this
    cases a <;> cases b <;> simp [sb]
  · intro data hd
    refine ⟨_, fillV_RP f h1 h2 _ _ data hd, mk16_size _, ?_⟩
    refine readyV_RP _ (k1 _) (k2 _) off n wr hr ?_ ?_
    · cases nA off n wr <;> cases a <;> rfl
    · cases nB off n wr <;> cases b <;> rfl
  · intro hu data hd
    refine ⟨_, fillV_RP f h1 h2 _ _ data hd, mk16_size _, ?_⟩
    refine busyV_RP _ (k1 _) (k2 _) off n wr hr (Or.inl ?_)
    rw [Bool.or_false]; exact hu
  · intro hu data hd
    refine ⟨_, fillV_RP f h1 h2 _ _ data hd, mk16_size _, ?_⟩
    refine busyV_RP _ (k1 _) (k2 _) off n wr hr (Or.inr ?_)
    rw [Bool.or_false]; exact hu

/-- a page over a device: what is valid reads as g, and where nothing is valid g is the device's -/
def Over (disk : ByteArray) (p : Pg) (g : Nat → UInt8) : Prop :=
  ∃ f a b x y, p = RP f a b x y ∧ (x && !a) = false ∧ (y && !b) = false ∧ ∀ i, i < 16 → if (if i < 8 then a else b) = true then f i = g i else g i = bat disk i
theorem Over.new (disk : ByteArray) : Over disk ⟨zeros 16, 0, 0⟩ (bat disk) :=
  ⟨fun _ => 0, false, false, false, false, by rw [zeros_mk]; rfl, rfl, rfl, fun i _ => by simp⟩
theorem Over.size {disk : ByteArray} {p : Pg} {g : Nat → UInt8} (h : Over disk p g) : p.d.size = 16 := by
  obtain ⟨f, a, b, x, y, rfl, _⟩ := h
  exact mk16_size _
theorem Over.fill {disk : ByteArray} {p : Pg} {g : Nat → UInt8} (h : Over disk p g) (hd : disk.size = 16) (s0 s1 : Bool) :
    ∃ q, fillV p (sb s0 s1) disk = (q, 0) ∧ Over disk q g := by
  obtain ⟨f, a, b, x, y, rfl, h1, h2, h3⟩ := h
  refine ⟨_, fillV_RP f h1 h2 s0 s1 disk hd, _, _, _, _, _, rfl, ?_, ?_, ?_⟩
  · revert h1; cases x <;> cases a <;> simp
  · revert h2; cases y <;> cases b <;> simp
  · intro i hi
    have := h3 i hi
    by_cases h8 : i < 8
    · simp only [h8, if_true] at this ⊢
      cases a <;> cases s0 <;> simp_all
    · simp only [h8, if_false] at this ⊢
      cases b <;> cases s1 <;> simp_all
theorem Over.last {disk : ByteArray} {p : Pg} {g : Nat → UInt8} (h : Over disk p g) (hd : disk.size = 16) :
    ∃ q, fillV p 3 disk = (q, 0) ∧ q.d.size = 16 ∧ readV q 0 16 = (mk16 g, 0) := by
  obtain ⟨f, a, b, x, y, rfl, h1, h2, h3⟩ := h
  have hf := fillV_RP f h1 h2 true true disk hd
  have e : RP (fun i => if (if i < 8 then true && !a else true && !b) = true then bat disk i else f i) (a || true) (b || true) x y = RP g true true x y := by
    rw [Bool.or_true, Bool.or_true]
    refine RP_ext fun i hi => ?_
    have := h3 i hi
    by_cases h8 : i < 8
    · simp only [h8, if_true] at this ⊢
      cases a <;> simp_all
    · simp only [h8, if_false] at this ⊢
      cases b <;> simp_all
  rw [e] at hf
  refine ⟨_, hf, mk16_size _, ?_⟩
  unfold readV
  rw [if_pos (readyV_RP g (by simp) (by simp) 0 16 false (by decide) (by simp) (by simp))]
  show ((mk16 g).extract 0 16, (0 : Int)) = _
  have : (mk16 g).extract 0 16 = mk16 g := by
    have h := ByteArray.extract_zero_size (b := mk16 g)
    rwa [mk16_size] at h
  rw [this]
theorem Over.write {disk : ByteArray} {p : Pg} {g : Nat → UInt8} (h : Over disk p g) (hd : disk.size = 16) (off : Int) (s : ByteArray) (h0 : 0 ≤ off) (hs : off + s.size ≤ 16) :
    ∃ u q r, needV p off s.size true = (u, 0) ∧ fillV p u disk = (q, 0) ∧ q.d.size = 16 ∧ writeV q off s = (r, 0) ∧ Over disk r (putF g off s) := by
  obtain ⟨f, a, b, x, y, rfl, h1, h2, h3⟩ := h
  have hr : rng off s.size = true := rng_iff.2 ⟨h0, by omega, by omega, by omega⟩
  have k1 : ∀ s0 : Bool, (x && !(a || s0)) = false := by intro s0; revert h1; cases x <;> cases a <;> simp
  have k2 : ∀ s1 : Bool, (y && !(b || s1)) = false := by intro s1; revert h2; cases y <;> cases b <;> simp
  refine ⟨_, _, _, needV_RP f h1 h2 off s.size true hr, fillV_RP f h1 h2 _ _ disk hd, mk16_size _, writeV_RP _ (k1 _) (k2 _) off s hr ?_ ?_, ?_⟩
  · cases nA off s.size true <;> cases a <;> rfl
  · cases nB off s.size true <;> cases b <;> rfl
  · refine ⟨_, _, _, _, _, rfl, ?_, ?_, ?_⟩
    · have := k1 (nA off s.size true && !a)
      revert this
      cases x <;> cases (a || (nA off s.size true && !a)) <;> cases tA off s.size <;> simp
    · have := k2 (nB off s.size true && !b)
      revert this
      cases y <;> cases (b || (nB off s.size true && !b)) <;> cases tB off s.size <;> simp
    · intro i hi
      have hg := h3 i hi
      have dA : nA off s.size true = (tA off s.size && !(cA off s.size)) := by unfold nA; simp
      have dB : nB off s.size true = (tB off s.size && !(cB off s.size)) := by unfold nB; simp
      rw [dA, dB]
      by_cases hin : off ≤ i ∧ (i : Int) < off + s.size
      · have e1 : ∀ f : Nat → UInt8, putF f off s i = bat s (i - off.toNat) := fun f => by unfold putF; rw [if_pos hin]
        rw [e1, e1]
        by_cases h8 : i < 8
        · have ht : tA off s.size = true := by unfold tA; simp; omega
          simp [h8, ht]
        · have ht : tB off s.size = true := by unfold tB; simp; omega
          simp [h8, ht]
      · have e1 : ∀ f : Nat → UInt8, putF f off s i = f i := fun f => by unfold putF; rw [if_neg hin]
        rw [e1, e1]
        by_cases h8 : i < 8
        · have hcov : cA off s.size = true → False := by
            intro hc; unfold cA at hc; have := of_decide_eq_true hc; exact hin ⟨by omega, by omega⟩
          have hc : cA off s.size = false := by cases h : cA off s.size with
            | false => rfl
            | true => exact (hcov h).elim
          simp only [h8, if_true] at hg ⊢
          rw [hc]
          cases a <;> cases tA off s.size <;> simp_all
        · have hcov : cB off s.size = true → False := by
            intro hc; unfold cB at hc; have := of_decide_eq_true hc; exact hin ⟨by omega, by omega⟩
          have hc : cB off s.size = false := by cases h : cB off s.size with
            | false => rfl
            | true => exact (hcov h).elim
          simp only [h8, if_false] at hg ⊢
          rw [hc]
          cases b <;> cases tB off s.size <;> simp_all
end Go.Proofs.Ythimcidkmnobnaa
