/- Room and Shown as the document has them. -/
import Derived.Test.YtpnoilpdlnlebaaFr
import Derived.Test.YtpnoilpdlnlebaaPu
namespace Go.Proofs.Ytpnoilpdlnlebaa
open Go.ChangeShapes Go.WideShapes Go.ChangeAt Go.RowKit

theorem roomK_ahead {l : List Ar} {n : Int} {j : Nat} (hj : j < roomK l n) : j < l.length ∧ fitAt l n j = false := by
  unfold roomK at hj
  cases hf : (List.range l.length).find? (fitAt l n) with
  | none =>
    rw [hf] at hj
    have hj : j < l.length := hj
    refine ⟨hj, ?_⟩
    have := List.find?_eq_none.1 hf j (List.mem_range.2 hj)
    simpa using this
  | some k =>
    rw [hf] at hj
    have hj : j < k := hj
    obtain ⟨_, i, hi, hik, hb⟩ := List.find?_eq_some_iff_getElem.1 hf
    have hi2 : i < l.length := by simpa using hi
    have hik2 : i = k := by simpa using hik
    subst hik2
    refine ⟨by omega, ?_⟩
    have := hb j hj
    simpa using this
theorem room_busy {l : List Ar} {n q : Int} (h0 : 0 ≤ q) (m : Nat) (hm : m ≤ roomK l n) (hq : q < lastAt l m) : ∃ x ∈ l, x.st < q + n ∧ q < x.st + x.cn := by
  induction m with
  | zero => unfold lastAt at hq; simp at hq; omega
  | succ m ih =>
    obtain ⟨hml, hft⟩ := roomK_ahead (l := l) (n := n) (j := m) (by omega)
    by_cases hlt : q < lastAt l m
    · exact ih (by omega) hlt
    · rw [lastAt_succ] at hq
      unfold fitAt at hft
      have hft := of_decide_eq_false hft
      refine ⟨l.getD m Ar.zero, by rw [getD_get hml]; exact List.getElem_mem hml, by omega, hq⟩
/-- whether one of m pages from q on is mapped -/
def anyTo (l : List Ar) (q : Int) (m : Nat) : Bool := (List.range m).any fun t => (findV l (q + t)).isSome
theorem anyTo_succ (l : List Ar) (q : Int) (m : Nat) : anyTo l q (m + 1) = (anyTo l q m || (findV l (q + m)).isSome) := by
  unfold anyTo
  rw [List.range_succ, List.any_append]
  simp
theorem anyTo_hit {l : List Ar} {q n : Int} (h : checkV l = true) (hn : 1 ≤ n) {x : Ar} (hx : x ∈ l) (h1 : x.st < q + n) (h2 : q < x.st + x.cn) : anyTo l q n.toNat = true := by
  have hr := right_num ((good_of_check h).right x hx)
  unfold anyTo
  refine List.any_eq_true.2 ⟨(max q x.st - q).toNat, List.mem_range.2 (by omega), ?_⟩
  have : findV l (q + ((max q x.st - q).toNat : Int)) = some x := (find_iff h).2 ⟨hx, by unfold inB; exact decide_eq_true (by omega)⟩
  rw [this]; rfl
theorem anyTo_free {l : List Ar} {q n : Int} (h : checkV l = true) (hf : Free l q n) : anyTo l q n.toNat = false := by
  unfold anyTo
  refine List.any_eq_false.2 fun t ht => ?_
  have ht := List.mem_range.1 ht
  cases hl : findV l (q + (t : Int)) with
  | none => simp
  | some x =>
    obtain ⟨hx, hi⟩ := (find_iff h).1 hl
    unfold inB at hi
    have hi := of_decide_eq_true hi
    exact absurd ⟨by omega, by omega⟩ (hf x hx)
theorem lastAt_nonneg {l : List Ar} (h : checkV l = true) (m : Nat) (hm : m ≤ l.length) : 0 ≤ lastAt l m := by
  cases m with
  | zero => simp [lastAt]
  | succ m =>
    rw [lastAt_succ, getD_get (by omega : m < l.length)]
    have := right_num ((good_of_check h).right _ (List.getElem_mem (show m < l.length from by omega)))
    omega
theorem roomK_le (l : List Ar) (n : Int) : roomK l n ≤ l.length := by
  unfold roomK
  cases hf : (List.range l.length).find? (fitAt l n) with
  | none => exact Nat.le_refl _
  | some k => exact Nat.le_of_lt (List.mem_range.1 (List.mem_of_find?_eq_some hf))
theorem roomR_hit {l : List Ar} {n : Int} {q : Nat} (h : checkV l = true) (hn : 1 ≤ n) (hq : (q : Int) + n ≤ 64) (hb : ∀ q' : Nat, q' < q → anyTo l q' n.toNat = true) (hf : anyTo l q n.toNat = false) : roomV l n = ((q : Int), true) := by
  have h0 := lastAt_nonneg h (roomK l n) (roomK_le l n)
  have hle : lastAt l (roomK l n) ≤ q := by
    by_cases hlt : (q : Int) < lastAt l (roomK l n)
    · obtain ⟨x, hx, h1, h2⟩ := room_busy (by omega) (roomK l n) (Nat.le_refl _) hlt
      rw [anyTo_hit h hn hx h1 h2] at hf
      cases hf
    · omega
  have hr : roomV l n = (lastAt l (roomK l n), true) := by
    unfold roomV
    rw [if_pos ⟨h, within_of h0 hn (by omega)⟩]
  obtain ⟨_, _, _, hfr⟩ := room_free h hr
  have hfree := anyTo_free h hfr
  by_cases he : lastAt l (roomK l n) = q
  · rw [hr, he]
  · have := hb (lastAt l (roomK l n)).toNat (by omega)
    rw [Int.toNat_of_nonneg h0, hfree] at this
    cases this
theorem roomR_miss {l : List Ar} {n : Int} {q : Nat} (h : checkV l = true) (hq : 64 < (q : Int) + n) (hb : ∀ q' : Nat, q' < q → anyTo l q' n.toNat = true) : roomV l n = (0, false) := by
  cases hr : roomV l n with
  | mk p ok =>
    cases ok with
    | false =>
      unfold roomV at hr
      split at hr
      · simp at hr
      · simp at hr; rw [hr]
    | true =>
      obtain ⟨h0, h1, h2, hfr⟩ := room_free h hr
      have hfree := anyTo_free h hfr
      have := hb p.toNat (by omega)
      rw [Int.toNat_of_nonneg h0, hfree] at this
      cases this
theorem room_bad {l : List Ar} {n : Int} (h : checkV l = false ∨ n < 1 ∨ 64 < n) : roomV l n = (0, false) := by
  unfold roomV
  rw [if_neg ?_]
  rintro ⟨h1, h2⟩
  have := within_num h2
  rcases h with h | h | h
  · rw [h] at h1; cases h1
  · omega
  · omega
set_option maxHeartbeats 4000000 in
theorem roomR_any (B : Nat) (a : Option Addr) (l : List Ar) (cap : Nat) (n : Int) (w : World) (h : ARow B a cap l w) (hl : l.length ≤ 100) :
    Calls Try.prog 17 #[.slice a l.length cap, .int .i64 n] w (RetW (.tuple #[.int .i64 (roomV l n).1, .bool (roomV l n).2]) w) := by
  have HC := Lib.hid (checkR_any B a l cap w h hl)
  have HF : Hid (∀ q W, Below w.heap.size w W → Calls Try.prog 15 #[.slice a l.length cap, .int .i64 q] W (RetW (.tuple #[.agg #[.int .i64 (optA (findV l q)).st, .int .i64 (optA (findV l q)).cn, .int .i64 (optA (findV l q)).fi, .int .i64 (optA (findV l q)).pg, .bool (optA (findV l q)).wr], .bool (findV l q).isSome]) W)) := fun q W hb => findR_any B a l cap q W (h.below hb) hl
  have HBAD := Lib.hid (room_bad (l := l) (n := n))
  have HHIT : Hid (checkV l = true → 1 ≤ n → ∀ q : Nat, (q : Int) + n ≤ 64 → (∀ q' : Nat, q' < q → anyTo l q' n.toNat = true) → anyTo l q n.toNat = false → roomV l n = ((q : Int), true)) := fun hc hn q hq hb hf => roomR_hit hc hn hq hb hf
  have HMISS : Hid (checkV l = true → ∀ q : Nat, 64 < (q : Int) + n → (∀ q' : Nat, q' < q → anyTo l q' n.toNat = true) → roomV l n = (0, false)) := fun hc q hq hb => roomR_miss hc hq hb
  clear h
  go_enter Try.func17, Try.ntmps17
  go_wp2_with fail
  refine HC.out.mono ?_; rintro e w1 ⟨rfl, hb⟩
  have HB := Lib.hid hb
  clear hb HC
  cases hcv : checkV l with
  | false =>
    have hv := HBAD.out (Or.inl hcv)
    go_wp2_with fail
    go_ret2
    exact ⟨by rw [hv]; rfl, HB.out⟩
  | true =>
    replace HHIT := Lib.hid (HHIT.out hcv)
    replace HMISS := Lib.hid (HMISS.out hcv)
    clear hcv
    by_cases hn1 : n < 1
    · have hv := Lib.hid (HBAD.out (Or.inr (Or.inl hn1)))
      go_wp2_with fail
      go_ret2
      exact ⟨by rw [hv.out]; rfl, HB.out⟩
    · have hn2 : 1 ≤ n := by omega
      by_cases hn3 : 64 < n
      · have hv := Lib.hid (HBAD.out (Or.inr (Or.inr hn3)))
        go_wp2_with fail
        go_ret2
        exact ⟨by rw [hv.out]; rfl, HB.out⟩
      · have hn4 : n ≤ 64 := by omega
        obtain ⟨m, rfl⟩ := Int.eq_ofNat_of_zero_le (show 0 ≤ n by omega)
        replace HHIT := Lib.hid (HHIT.out hn2)
        rw [Int.toNat_natCast] at HHIT HMISS
        clear HBAD
        go_wp2_with fail
        go_loopw [6] (fun v6 wr => ∃ q : Nat, q ≤ 64 ∧ v6 = .int .i64 q ∧ Hid (∀ q' : Nat, q' < q → anyTo l q' m = true) ∧ Hid (Below w.heap.size w wr)) (fun v6 _ => 200 - (intOf v6).toNat)
        case atStart => exact ⟨0, by omega, rfl, fun q' h => absurd h (Nat.not_lt_zero _), HB⟩
        case round =>
          clear HB
          obtain ⟨q, hq, rfl, HBU, HB⟩ := hrel
          have hw1 : IntKind.i64.wrap ((q : Int) + m) = (q : Int) + m := IntWalk.i64_in _ (by omega)
          by_cases hqn : (q : Int) + m ≤ 64
          · obtain ⟨wo, rfl⟩ : ∃ wo : World, wo = wr := ⟨_, rfl⟩
            go_wp2_with fail
            go_loopw [7, 8] (fun v7 v8 wr => ∃ j : Nat, j ≤ m ∧ v8 = .int .i64 ((q : Int) + j) ∧ v7 = .bool (!anyTo l q j) ∧ Hid (Below w.heap.size w wr)) (fun _ v8 _ => 200 - (intOf v8).toNat)
            case atStart => exact ⟨0, Nat.zero_le _, by simp, rfl, HB⟩
            case round =>
              clear HB
              obtain ⟨j, hj, rfl, rfl, HB⟩ := hrel
              by_cases hjm : j < m
              · have hjm' : (q : Int) + j < (q : Int) + m := by omega
                have hw2 : IntKind.i64.wrap ((q : Int) + j + 1) = (q : Int) + j + 1 := IntWalk.i64_in _ (by omega)
                have hs := anyTo_succ l q j
                have hf := HF.out ((q : Int) + j)
                generalize (optA (findV l ((q : Int) + j))).st = x0 at *
                generalize (optA (findV l ((q : Int) + j))).cn = x1 at *
                generalize (optA (findV l ((q : Int) + j))).fi = x2 at *
                generalize (optA (findV l ((q : Int) + j))).pg = x3 at *
                generalize (optA (findV l ((q : Int) + j))).wr = x4 at *
                generalize (findV l ((q : Int) + j)).isSome = OK at *
                have HS := Lib.hid hs
                have HF2 := Lib.hid hf
                clear hs hf HF
                go_wp2_with fail
                refine (HF2.out _ HB.out).mono ?_; rintro e w2 ⟨rfl, hb⟩
                replace HB := Lib.hid (HB.out.trans (hb.mono HB.out.size))
                clear hb HF2
                cases OK with
                | false =>
                  go_wp2_with fail
                  go_roundw
                  case rel => exact ⟨j + 1, by omega, by go_num, by rw [HS.out, Bool.or_false], HB.out.alloc HB.out.size _⟩
                  case measure => simp [intOf]; omega
                | true =>
                  go_wp2_with fail
                  go_roundw
                  case rel => exact ⟨j + 1, by omega, by go_num, by rw [HS.out, Bool.or_true]; rfl, HB.out.alloc HB.out.size _⟩
                  case measure => simp [intOf]; omega
              · obtain rfl : j = m := by omega
                have hh := HHIT.out q hqn HBU.out
                have HH := Lib.hid hh
                have hnx : anyTo l q j = true → ∀ q' : Nat, q' < q + 1 → anyTo l q' j = true := fun h q' hq' => by
                  by_cases e : q' = q
                  · rw [e]; exact h
                  · exact HBU.out q' (by omega)
                have HNX := Lib.hid hnx
                clear hh hnx HHIT HMISS HBU
                generalize anyTo l q j = AT at *
                cases AT with
                | false =>
                  have hv := Lib.hid (HH.out rfl)
                  go_wp2_with fail
                  go_ret2
                  exact ⟨by rw [hv.out]; rfl, HB.out⟩
                | true =>
                  have hv := Lib.hid (HNX.out rfl)
                  go_wp2_with fail
                  go_roundw
                  case rel => exact ⟨q + 1, by omega, by go_num, hv, HB⟩
                  case measure => simp [intOf]; omega
          · have hv := Lib.hid (HMISS.out q (by omega) HBU.out)
            have hqn' : 64 < (q : Int) + m := by omega
            go_wp2_with fail
            go_ret2
            exact ⟨by rw [hv.out]; rfl, HB.out⟩

def shTo (l : List Ar) (f p : Int) (k : Nat) : List Int := ((List.range k).filter (hitP l f p)).map Int.ofNat
theorem shTo_succ (l : List Ar) (f p : Int) (k : Nat) : shTo l f p (k + 1) = if hitP l f p k = true then shTo l f p k ++ [(k : Int)] else shTo l f p k := by
  unfold shTo
  rw [List.range_succ, List.filter_append, List.map_append]
  cases h : hitP l f p k <;> simp [h]
theorem shTo_len (l : List Ar) (f p : Int) (k : Nat) : (shTo l f p k).length ≤ k := by
  unfold shTo
  rw [List.length_map]
  exact Nat.le_trans (List.length_filter_le _ _) (by simp)
set_option maxHeartbeats 4000000 in
theorem shownR_any (B : Nat) (a : Option Addr) (l : List Ar) (cap : Nat) (f p : Int) (w : World) (h : ARow B a cap l w) (hl : l.length ≤ 100) :
    Calls Try.prog 19 #[.slice a l.length cap, .int .i64 f, .int .i64 p] w fun e w' => ∃ b c, e = .returned (.slice b (shownV l f p).length c) ∧ IRow w.heap.size b c (shownV l f p) w' ∧ Below w.heap.size w w' := by
  have HC := Lib.hid (checkR_any B a l cap w h hl)
  have HF : Hid (∀ q W, Below w.heap.size w W → Calls Try.prog 15 #[.slice a l.length cap, .int .i64 q] W (RetW (.tuple #[.agg #[.int .i64 (optA (findV l q)).st, .int .i64 (optA (findV l q)).cn, .int .i64 (optA (findV l q)).fi, .int .i64 (optA (findV l q)).pg, .bool (optA (findV l q)).wr], .bool (findV l q).isSome]) W)) := fun q W hb => findR_any B a l cap q W (h.below hb) hl
  have HV : Hid (checkV l = true → shownV l f p = shTo l f p 64) := fun hc => shown_eq f p hc
  have HN : Hid (checkV l = false → shownV l f p = []) := fun hc => by unfold shownV; rw [hc]; rfl
  clear h
  obtain ⟨i0, hi, hz0, hz1, hz2⟩ := info_parts int_info
  go_enter Try.func19, Try.ntmps19
  go_wp2_with fail
  refine HC.out.mono ?_; rintro e w1 ⟨rfl, hb⟩
  have HB := Lib.hid hb
  clear hb HC
  cases hcv : checkV l with
  | false =>
    have hv := HN.out hcv
    go_wp2_with fail
    go_ret
    exact ⟨none, 0, by rw [hv]; rfl, by rw [hv]; exact Or.inl ⟨rfl, rfl, rfl⟩, HB.out⟩
  | true =>
    have HV2 := Lib.hid (HV.out hcv)
    clear HV HN hcv
    go_wp2_with fail
    go_loopw [7, 8] (fun v7 v8 wr => ∃ k : Nat, k ≤ 64 ∧ v8 = .int .i64 k ∧ Hid (Below w.heap.size w wr) ∧ Hid (wr.ownsRow w.heap.size 3 1 v7 (shTo l f p k).length ((shTo l f p k).map (Value.int .i64)))) (fun _ v8 _ => 200 - (intOf v8).toNat)
    case atStart => exact ⟨0, Nat.zero_le _, rfl, HB, World.ownsRow_nil _ _ _ _⟩
    case round =>
      clear HB
      obtain ⟨k, hk, rfl, HB, HO⟩ := hrel
      by_cases hlt : k < 64
      · have hlt' : (k : Int) < 64 := by omega
        have hs := shTo_succ l f p k
        have hsl := shTo_len l f p k
        have hf := HF.out (k : Int)
        have hbd := find_bound (l := l) (p := (k : Int))
        unfold hitP at hs
        generalize optA (findV l (k : Int)) = e at *
        generalize (findV l (k : Int)).isSome = OK at *
        obtain ⟨s, c, f', q, wb⟩ := e
        simp only at hf hbd hs
        obtain ⟨d1, d2, d3, d4⟩ := hbd
        have HS := Lib.hid hs
        have HF2 := Lib.hid hf
        clear hs hf HF
        generalize shTo l f p k = L at *
        have hw2 : IntKind.i64.wrap (q + k) = q + k := IntWalk.i64_in _ (by omega)
        have hw3 : IntKind.i64.wrap (q + k - s) = q + k - s := IntWalk.i64_in _ (by omega)
        go_wp2_with fail
        refine (HF2.out _ HB.out).mono ?_; rintro e w2 ⟨rfl, hb⟩
        replace HB := Lib.hid (HB.out.trans (hb.mono HB.out.size))
        replace HO := Lib.hid (own_below HO.out hb)
        have hbs := HB.out.size
        clear hb HF2
        have HB2 := Lib.hid (HB.out.alloc HB.out.size (Obj.cells #[Value.int IntKind.i64 s, Value.int IntKind.i64 c, Value.int IntKind.i64 f', Value.int IntKind.i64 q, Value.bool wb] 30))
        cases OK with
        | false =>
          rw [Bool.false_and, if_neg (by simp)] at HS
          go_wp2_with fail
          go_roundw
          case rel => exact ⟨k + 1, by omega, by go_num, HB2, by rw [HS.out]; exact HO.out.alloc _⟩
          case measure => simp [intOf]; omega
        | true =>
          rw [Bool.true_and] at HS
          by_cases hF : f' = f
          · subst hF
            by_cases hQ : q + k - s = p
            · rw [if_pos (by simp [hQ])] at HS
              have hQ2 : (q + (k : Int) - s == p) = true := by simpa using hQ
              clear hQ
              go_wp2_with (at_builtin; refine wpList_append_own _ rfl _ _ 22 rfl w.heap.size 3 i0 (.int .i64 0) 1 8 Try.underlying22 hi hz0 hz1 hz2 rfl (by decide) _ _ _ rfl ((HO.out.alloc _).alloc _) ⟨w2.heap.size + 1, 0, none⟩ 1 1 [.int .i64 k] rfl rfl ?c1 ?c2 ?c3 ?c4 ?c5 ?_)
              case c1 => intro j u hj; exact cell_after _ _ _ _ _ _ hj
              case c2 => intro u hu; simp at hu; subst hu; rfl
              case c3 => unfold maxLen; omega
              case c4 => omega
              case c5 => simp; omega
              intro v' w' hown' hgrow _
              have HB3 := Lib.hid (((HB2.out.alloc HB2.out.size (Obj.cells #[Value.int IntKind.i64 k] 3)).grown hgrow (by simp; omega) (fun x hx => (HO.out.lt x hx).1)))
              have HO3 : Hid (w'.ownsRow w.heap.size 3 1 v' (L ++ [(k : Int)]).length ((L ++ [(k : Int)]).map (Value.int .i64))) := by
                unfold Hid
                rw [List.map_append, List.length_append]
                exact hown'
              clear hgrow hown'
              go_wp2_with fail
              go_roundw
              case rel => exact ⟨k + 1, by omega, by go_num, HB3, by rw [HS.out]; exact HO3⟩
              case measure => simp [intOf]; omega
            · rw [if_neg (by simp [hQ])] at HS
              have hQ2 : (q + (k : Int) - s == p) = false := by simpa using hQ
              clear hQ
              go_wp2_with fail
              go_roundw
              case rel => exact ⟨k + 1, by omega, by go_num, HB2, by rw [HS.out]; exact HO.out.alloc _⟩
              case measure => simp [intOf]; omega
          · rw [if_neg (by simp [hF])] at HS
            have hF2 : (f' == f) = false := by simpa using hF
            clear hF
            go_wp2_with fail
            go_roundw
            case rel => exact ⟨k + 1, by omega, by go_num, HB2, by rw [HS.out]; exact HO.out.alloc _⟩
            case measure => simp [intOf]; omega
      · obtain rfl : k = 64 := by omega
        obtain ⟨b, c, rfl, _, hr⟩ := IRow.ofOwn HO.out
        have HR := Lib.hid hr
        clear hr HO
        go_wp2_with fail
        go_ret
        exact ⟨b, c, by rw [HV2.out]; rfl, by rw [HV2.out]; exact HR.out, HB.out⟩
end Go.Proofs.Ytpnoilpdlnlebaa
