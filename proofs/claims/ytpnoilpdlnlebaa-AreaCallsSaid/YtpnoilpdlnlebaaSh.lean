/- What a page shows; where there is room. -/
import Derived.Test.YtpnoilpdlnlebaaFd
namespace Go.Proofs.Ytpnoilpdlnlebaa
open Go.ChangeShapes Go.WideShapes Go.ChangeAt Go.RowKit

theorem find_bound {l : List Ar} {p : Int} : 0 ≤ (optA (findV l p)).st ∧ (optA (findV l p)).st ≤ 64 ∧ 0 ≤ (optA (findV l p)).pg ∧ (optA (findV l p)).pg ≤ 8 := by
  unfold findV
  split
  · rename_i hc
    cases hf : l.find? (inB p) with
    | none => exact ⟨by decide, by decide, by decide, by decide⟩
    | some a =>
      have hm := List.mem_of_find?_eq_some hf
      obtain ⟨j, hj, rfl⟩ := List.mem_iff_getElem.1 hm
      have h1 := (check_right hc j hj).1
      rw [show l.getD j Ar.zero = l[j] from by simp [List.getD, hj]] at h1
      have h2 := rightB_iff.1 h1
      show 0 ≤ l[j].st ∧ l[j].st ≤ 64 ∧ 0 ≤ l[j].pg ∧ l[j].pg ≤ 8
      omega
  · exact ⟨by decide, by decide, by decide, by decide⟩

set_option maxHeartbeats 1000000 in
theorem shows_any (B : Nat) (a : Option Addr) (l : List Ar) (cap : Nat) (p : Int) (w : World) (h : ARow B a cap l w) (hl : l.length ≤ 100) (h0 : 0 ≤ p) (h1 : p ≤ 1000) :
    Calls Try.prog 25 #[.slice a l.length cap, .int .i64 p] w (RetW (.tuple #[.int .i64 (optA (findV l p)).fi, .int .i64 ((optA (findV l p)).pg + p - (optA (findV l p)).st), .bool (optA (findV l p)).wr, .bool (findV l p).isSome]) w) := by
  have hf := find_any B a l cap p w h hl
  have hb := find_bound (l := l) (p := p)
  have HF := Lib.hid hf
  clear hf h
  unfold arVal at HF
  generalize optA (findV l p) = e at *
  generalize (findV l p).isSome = r at *
  obtain ⟨s, c, f, q, wb⟩ := e
  simp only at *
  obtain ⟨b1, b2, b3, b4⟩ := hb
  go_enter Try.func25, Try.ntmps25
  go_wp2_with fail
  refine HF.out.mono ?_; rintro e w1 ⟨rfl, hb⟩
  have hw : IntKind.i64.wrap (q + p) = q + p := IntWalk.i64_in _ (by omega)
  have hw2 : IntKind.i64.wrap (q + p - s) = q + p - s := IntWalk.i64_in _ (by omega)
  have HB := Lib.hid hb
  clear hb
  go_wp2_with fail
  have hbl := Blk.new w1 s c f q wb
  have HB2 := Lib.hid (HB.out.alloc HB.out.size (Obj.cells #[Value.int IntKind.i64 s, Value.int IntKind.i64 c, Value.int IntKind.i64 f, Value.int IntKind.i64 q, Value.bool wb] 30))
  generalize w1.alloc (Obj.cells #[Value.int IntKind.i64 s, Value.int IntKind.i64 c, Value.int IntKind.i64 f, Value.int IntKind.i64 q, Value.bool wb] 30) = w2 at *
  generalize w1.heap.size = A at *
  have c0 := hbl.c0; have c1 := hbl.c1; have c2 := hbl.c2; have c3 := hbl.c3; have c4 := hbl.c4
  simp only at c0 c1 c2 c3 c4
  go_quiet (fail)
  go_wp2_with fail
  refine bodyPost_ret (v := .tuple #[.int .i64 f, .int .i64 (q + p - s), .bool wb, .bool r]) (by simp [results, Try.results25, go_sem]) rfl ⟨rfl, below_drewN HB2.out _⟩

/-- whether n pages fit ahead of place j -/
def fitAt (l : List Ar) (n : Int) (j : Nat) : Bool := decide (n ≤ (l.getD j Ar.zero).st - lastAt l j)
/-- the first place with room ahead of it, or the end -/
def roomK (l : List Ar) (n : Int) : Nat := ((List.range l.length).find? (fitAt l n)).getD l.length
def roomV (l : List Ar) (n : Int) : Int × Bool := if checkV l = true ∧ withinB (lastAt l (roomK l n)) n 64 = true then (lastAt l (roomK l n), true) else (0, false)
theorem roomK_hit {l : List Ar} {n : Int} {k : Nat} (hk : k < l.length) (h : ∀ j, j < k → fitAt l n j = false) (hi : fitAt l n k = true) : roomK l n = k := by
  unfold roomK
  have : (List.range l.length).find? (fitAt l n) = some k := by
    rw [List.find?_eq_some_iff_getElem]
    exact ⟨hi, k, by simpa using hk, by simp, fun j hj => by simp [h j hj]⟩
  rw [this]; rfl
theorem roomK_miss {l : List Ar} {n : Int} (h : ∀ j, j < l.length → fitAt l n j = false) : roomK l n = l.length := by
  unfold roomK
  have : (List.range l.length).find? (fitAt l n) = none := by
    rw [List.find?_eq_none]
    intro j hj
    rw [h j (List.mem_range.1 hj)]; simp
  rw [this]; rfl

set_option maxHeartbeats 4000000 in
theorem room_any (B : Nat) (a : Option Addr) (l : List Ar) (cap : Nat) (n : Int) (w : World) (h : ARow B a cap l w) (hl : l.length ≤ 100) :
    Calls Try.prog 16 #[.slice a l.length cap, .int .i64 n] w (RetW (.tuple #[.int .i64 (roomV l n).1, .bool (roomV l n).2]) w) := by
  have HA : Hid (∀ W, Below w.heap.size w W → ∀ j, j < l.length → ∃ g, a = some ⟨g, 0, none⟩ ∧ g < W.heap.size ∧ (l.length : Int) ≤ cap ∧ Cel W g (j * 5) (l.getD j Ar.zero)) := by
    intro W hb j hj
    obtain ⟨g, h1, h2, h3, h4, h5, h6⟩ := (h.below hb).at (by omega)
    exact ⟨g, h1, h3, by omega, h6 j hj⟩
  have HC := Lib.hid (check_any B a l cap w h hl)
  have HR : Hid (checkV l = true → ∀ j, j < l.length → 0 ≤ (l.getD j Ar.zero).st ∧ 1 ≤ (l.getD j Ar.zero).cn ∧ (l.getD j Ar.zero).st + (l.getD j Ar.zero).cn ≤ 64) := fun hc j hj => by
    have := rightB_iff.1 (check_right hc j hj).1
    exact ⟨this.1, this.2.1, this.2.2.1⟩
  have HV : Hid (∀ k, roomK l n = k → checkV l = true → roomV l n = if withinB (lastAt l k) n 64 = true then (lastAt l k, true) else (0, false)) := by
    intro k hk hc
    unfold roomV
    rw [hk, hc]
    simp
  have HN : Hid (checkV l = false → roomV l n = (0, false)) := fun hc => by unfold roomV; rw [hc, if_neg (by simp)]
  clear h
  go_enter Try.func16, Try.ntmps16
  go_wp2_with fail
  refine HC.out.mono ?_; rintro e w1 ⟨rfl, hb⟩
  have HB := Lib.hid hb
  clear hb HC
  cases hcv : checkV l with
  | false =>
    have hv := HN.out hcv
    go_wp2_with fail
    go_ret2
    exact ⟨by rw [hv]; rfl, HB.out⟩
  | true =>
    have HR2 := Lib.hid (HR.out hcv); have HV2 : Hid (∀ k, roomK l n = k → roomV l n = if withinB (lastAt l k) n 64 = true then (lastAt l k, true) else (0, false)) := fun k hk => HV.out k hk hcv
    clear HR HV HN hcv
    have HEND : Hid (∀ k, k ≤ l.length → 0 ≤ lastAt l k ∧ lastAt l k ≤ 64) := by
      intro k hk
      unfold lastAt
      split
      · omega
      · have := HR2.out (k - 1) (by omega); omega
    go_wp2_with fail
    go_loopw [6, 14] (fun v6 v14 wr => ∃ k : Nat, k ≤ l.length ∧ v6 = .int .i64 (lastAt l k) ∧ v14 = .int .i64 k ∧ Hid (Below w.heap.size w wr) ∧ Hid (∀ j, j < k → fitAt l n j = false)) (fun _ v14 _ => 200 - (intOf v14).toNat)
    case atStart => exact ⟨0, Nat.zero_le _, rfl, rfl, HB, fun j hj => absurd hj (Nat.not_lt_zero _)⟩
    case round =>
      clear HB
      obtain ⟨k, hk, rfl, rfl, HB, HF⟩ := hrel
      by_cases hlt : k < l.length
      · have hlt' : (k : Int) < (l.length : Int) := by omega
        obtain ⟨g, rfl, hg, hcap, hcel⟩ := HA.out _ HB.out k hlt
        obtain ⟨e1, e2, e3⟩ := HR2.out k hlt
        obtain ⟨l1, l2⟩ := HEND.out k hk
        have hhit : fitAt l n k = true → roomK l n = k := fun hi => roomK_hit hlt HF.out hi
        have hnext : fitAt l n k = false → ∀ j, j < k + 1 → fitAt l n j = false := fun h j hj => by
          by_cases e : j = k
          · rw [e]; exact h
          · exact HF.out j (by omega)
        have hfit : fitAt l n k = decide (n ≤ (l.getD k Ar.zero).st - lastAt l k) := rfl
        have hla := lastAt_succ l k
        have HVK := Lib.hid (HV2.out k)
        rw [hfit] at hhit hnext
        clear HA hfit
        generalize l.getD k Ar.zero = e at *
        obtain ⟨s, c, f, q, wb⟩ := e
        simp only at e1 e2 e3 hhit hnext hla
        obtain ⟨k0, k1, k2, k3, k4⟩ := hcel
        simp only at k0 k1 k2 k3 k4
        have HE := Lib.hid (fun w => end_any ⟨s, c, f, q, wb⟩ w (by simp only; omega) (by simp only; omega))
        simp only at HE
        have HLA := Lib.hid hla
        have HHIT := Lib.hid hhit; have HNX := Lib.hid hnext
        clear hla hhit hnext
        generalize lastAt l k = la at *
        have hw1 : IntKind.i64.wrap (s - la) = s - la := IntWalk.i64_in _ (by omega)
        by_cases hf : n ≤ s - la
        · have hv := HVK.out (HHIT.out (decide_eq_true hf))
          have HWI := Lib.hid (fun w => within_any la n 64 w (by omega) (by omega))
          have HV3 := Lib.hid hv
          have HB2 := Lib.hid (HB.out.alloc HB.out.size (Obj.cells #[Value.int IntKind.i64 s, Value.int IntKind.i64 c, Value.int IntKind.i64 f, Value.int IntKind.i64 q, Value.bool wb] 30))
          clear hv HNX HHIT HVK
          generalize withinB la n 64 = b9 at *
          go_wp2_with fail
          refine (HWI.out _).mono ?_; rintro e w5 ⟨rfl, rfl⟩
          cases b9 with
          | false =>
            go_wp2_with fail
            go_ret2
            exact ⟨by rw [HV3.out]; rfl, HB2.out⟩
          | true =>
            go_wp2_with fail
            go_ret2
            exact ⟨by rw [HV3.out]; rfl, HB2.out⟩
        · have HN2 := Lib.hid (HNX.out (decide_eq_false hf))
          have hf2 : s - la < n := by omega
          clear HNX HHIT HVK
          go_wp2_with fail
          have HB2 := Lib.hid (HB.out.alloc HB.out.size (Obj.cells #[Value.int IntKind.i64 s, Value.int IntKind.i64 c, Value.int IntKind.i64 f, Value.int IntKind.i64 q, Value.bool wb] 30))
          refine (HE.out _).mono ?_; rintro e w4 ⟨rfl, hb⟩
          replace HB2 := Lib.hid (HB2.out.trans (hb.mono HB2.out.size))
          clear hb
          go_wp2_with fail
          go_roundw
          case rel => exact ⟨k + 1, by omega, by rw [HLA.out], by go_num, HB2, HN2⟩
          case measure => simp [intOf]; omega
      · obtain rfl : k = l.length := by omega
        have hv := HV2.out l.length (roomK_miss HF.out)
        have HWI := Lib.hid (fun w => within_any (lastAt l l.length) n 64 w (by omega) (by omega))
        have HV3 := Lib.hid hv
        clear hv
        generalize withinB (lastAt l l.length) n 64 = b9 at *
        generalize lastAt l l.length = la at *
        go_wp2_with fail
        refine (HWI.out _).mono ?_; rintro e w5 ⟨rfl, rfl⟩
        cases b9 with
        | false =>
          go_wp2_with fail
          go_ret2
          exact ⟨by rw [HV3.out]; rfl, HB.out⟩
        | true =>
          go_wp2_with fail
          go_ret2
          exact ⟨by rw [HV3.out]; rfl, HB.out⟩
end Go.Proofs.Ytpnoilpdlnlebaa
