/- Filling a page: the program's answer. -/
import Derived.Test.YthimcidkmnobnaaFin
namespace Go.Proofs.Ythimcidkmnobnaa
open Go.ChangeShapes Go.WideShapes Go.ChangeAt Go.RowKit

def fillX (d data : ByteArray) (x y : Bool) (i : Nat) : UInt8 := if (if i < 8 then x else y) = true then bat data i else bat d i
def wants (s v k : Int) : Bool := bits .and .i64 (bits .andNot .i64 s v) k != 0
def fillV (p : Pg) (s : Int) (data : ByteArray) : Pg × Int :=
  if chk p = true then (if isSet s = true ∧ data.size = 16 then (⟨mk16 (fillX p.d data (wants s p.v 1) (wants s p.v 2)), bits .or .i64 p.v s, p.e⟩, 0) else (noPg, 2)) else (noPg, 1)

theorem info5 : (Try.prog.info? 5).map (fun i => (i.zero, i.size, i.bytes)) = some (some (.int .u8 0), 1, 1) := byte_info
theorem cut_vs (data : ByteArray) (o n : Nat) (h : o + 8 ≤ data.size) :
    ((((data.extract o n).data.toList.map fun x => Value.int .u8 (x.toNat : Int)).take 8).length = 8 ∨ n < o + 8) ∧
    ∀ j (hj : j < (((data.extract o n).data.toList.map fun x => Value.int .u8 (x.toNat : Int)).take 8).length),
      (((data.extract o n).data.toList.map fun x => Value.int .u8 (x.toNat : Int)).take 8)[j] = .int .u8 ((bat data (o + j)).toNat : Int) := by
  have e : (data.extract o n).data.toList = (data.data.toList.take n).drop o := by
    rw [ByteArray.data_extract, Array.toList_extract]
    simp [List.extract, List.drop_take]
  constructor
  · simp only [e, List.length_take, List.length_map, List.length_drop, size_eq_list]
    omega
  · intro j hj
    simp only [List.getElem_take, List.getElem_map, e, List.getElem_drop]
    congr 2
    have : o + j < data.data.toList.length := by
      simp only [e, List.length_take, List.length_map, List.length_drop, size_eq_list] at hj
      rw [size_eq_list]; omega
    simp [bat, List.getD, List.getElem?_eq_getElem this]

set_option maxHeartbeats 4000000 in
set_option maxRecDepth 100000 in
theorem fill_good (d data : ByteArray) (v e s : Int) (w : World) (hc : chk ⟨d, v, e⟩ = true) (hs : isSet s = true) (hd : d.size = 16) (hdat : data.size = 16) :
    Calls Try.prog 24 #[.agg #[.string d, .int .i64 v, .int .i64 e], .int .i64 s, .string data] w
      (RetW (.tuple #[.agg #[.string (mk16 (fillX d data (wants s v 1) (wants s v 2))), .int .i64 (bits .or .i64 v s), .int .i64 e], .int .i64 0]) w) := by
  have hch := check_any ⟨d, v, e⟩
  have hss := set_any s
  simp only [Pg.val, hc] at hch
  rw [hs] at hss
  have HC := Lib.hid (fun w => hch w (by unfold maxLen; omega))
  have HS := Lib.hid hss
  have HD := Lib.hid hd
  have HT := Lib.hid hdat
  have HX : Hid (wants s v 1 = (bits .and .i64 (bits .andNot .i64 s v) 1 != 0)) := rfl
  have HY : Hid (wants s v 2 = (bits .and .i64 (bits .andNot .i64 s v) 2 != 0)) := rfl
  generalize wants s v 1 = x at *
  generalize wants s v 2 = y at *
  have hq1 : decide (data.size = 16) = true := by simpa using hdat
  have hq2 : ((data.size : Int) != 16) = false := by simp [hdat]
  have hconv : ∀ (w : World), (convert 9 45 (.string d)).run Try.prog w = .ok (.slice (some ⟨w.heap.size, 0, none⟩) 16 (grownCap w 16 0 5)) (w.drew.alloc (.cells (bytesRow d (grownCap w 16 0 5)) 5 ((bytesRow d (grownCap w 16 0 5)).size, (bytesRow d (grownCap w 16 0 5)).size + 1))) := by
    intro w
    have := run_bytes_of_string (P := Try.prog) w 9 45 5 d Try.underlying9 Try.underlying45 Try.underlying5
    rw [hd] at this
    exact this
  have hrow : ∀ C, 16 ≤ (bytesRow d C).size := by
    intro C
    have : d.data.size = 16 := hd
    simp [bytesRow, this]
  have HROW := Lib.hid hrow
  clear hrow
  clear hch hss hc hs hd hdat
  go_enter Try.func24, Try.ntmps24
  go_wp2_with (first | (go_at_call 16; refine (HC.out _).mono ?_; rintro e w' ⟨rfl, hb⟩; obtain ⟨hcc, hff⟩ := bcell hb) | (go_at_call 39; refine (HS.out _).mono ?_; rintro e w' ⟨rfl, rfl⟩))
  have hge := grownCap_ge w' 16 0 5
  have hle := grownCap_le_maxLen w' 16 0 5 (by unfold maxLen; omega)
  have hst := (FInv.start (w := w) (v := v) (e := e) HD.out (grownCap w' 16 0 5) hge (bytesRow d (grownCap w' 16 0 5)).size ((bytesRow d (grownCap w' 16 0 5)).size + 1) (HROW.out _) (hb.mono (by simp))).drew
  generalize (w'.alloc (.cells (bytesRow d (grownCap w' 16 0 5)) 5 ((bytesRow d (grownCap w' 16 0 5)).size, (bytesRow d (grownCap w' 16 0 5)).size + 1))).drew = W at hst ⊢
  generalize grownCap w' 16 0 5 = C at hge hle ⊢
  clear hconv hcc hff hb HROW
  generalize w'.heap.size = g at hst ⊢
  unfold maxLen at hle
  clear hq1 hq2
  have hcut : ∀ (o n : Nat), 16 ≤ n → o + 8 ≤ 16 → (∀ (wr : World) (ty : TypeId) (cap : Nat), (∀ j, j < 16 → (wr.cell? ⟨g, j, none⟩).isSome = true) → (∀ j, j < 16 → wr.frozen? ⟨g, j, none⟩ = false) → (Builtin.copy_ #[45, 9] ty #[.slice (some ⟨g, o, none⟩) 8 cap, .string (data.extract o n)]).run Try.prog wr = .ok (goInt 8) (wr.setCells g o (((data.extract o n).data.toList.map fun x => Value.int .u8 (x.toNat : Int)).take 8))) := by
    intro o n hn ho wr ty cap h1 h2
    refine run_copy_cut wr ty g o 8 cap (data.extract o n) ?_ (fun j hj => h1 _ (by omega)) (fun j hj => h2 _ (by omega))
    have := HT.out
    simp; omega
  have HCUT := Lib.hid hcut
  clear hcut
  go_loopw [26] (fun i wr => ∃ k : Int, i = .int .i64 k ∧ ((k = 0 ∧ FInv w g d v e (bat d) wr) ∨ (k = 1 ∧ FInv w g d v e (fillX d data x false) wr) ∨ (k = 2 ∧ FInv w g d v e (fillX d data x y) wr))) (fun i _ => (2 - intOf i).toNat)
  case atStart => exact ⟨0, rfl, Or.inl ⟨rfl, hst⟩⟩
  case round =>
    obtain ⟨k, rfl, hk⟩ := hrel
    rcases hk with ⟨rfl, hi⟩ | ⟨rfl, hi⟩ | ⟨rfl, hi⟩
    · have p1 := hi.p1
      cases x with
      | false =>
        have hx : bits .and .i64 (bits .andNot .i64 s v) 1 = 0 := by have := HX.out; simpa using this.symm
        go_wp2_with fail
        go_quiet (fail)
        go_wp2_with fail
        go_roundw
        case rel => exact ⟨1, rfl, Or.inr (Or.inl ⟨rfl, (hi.drewN _).congr (fun j hj => by simp [fillX])⟩)⟩
        case measure => simp [intOf]
      | true =>
        have hx : (bits .and .i64 (bits .andNot .i64 s v) 1 != 0) = true := HX.out.symm
        go_wp2_with fail
        go_quiet (fail)
        go_wp2_with fail
        have hW := hi.drewN nq
        generalize wr.drewN nq = wq at hW ⊢
        clear hi p1
        have hcp : ∀ cap, (Builtin.copy_ #[45, 9] 3 #[.slice (some ⟨g, 0, none⟩) 8 cap, .string data]).run Try.prog wq.drew = .ok (goInt 8) (wq.drew.setCells g 0 (((data).data.toList.map fun x => Value.int .u8 (x.toNat : Int)).take 8)) := by
          intro cap
          have := HCUT.out 0 data.size (by have := HT.out; omega) (by omega) wq.drew 3 cap (fun j hj => by rw [hW.drew.row j hj]; rfl) (fun j hj => hW.drew.rz j hj)
          rw [ByteArray.extract_zero_size] at this
          exact this
        have d1 : (0 : Int) ≤ (data.size : Int) := by have := HT.out; omega
        have d2 : (8 : Int) ≤ (C : Int) := by omega
        have d3 : (8 : Nat) ≤ C := by omega
        have e0 : IntKind.i64.wrap 0 = 0 := by decide
        have e1 : IntKind.i64.wrap 1 = 1 := by decide
        have e8 : IntKind.i64.wrap 8 = 8 := by decide
        have hvs := cut_vs data 0 data.size (by have := HT.out; omega)
        rw [ByteArray.extract_zero_size] at hvs
        have hnx := hW.drew.copy 0 (by omega) _ (hvs.1.resolve_right (by have := HT.out; omega)) (fillX d data true false) (fun j hj => by
          rw [hvs.2 j hj]
          have hj8 : j < 8 := by simp at hj; omega
          congr 3
          simp [fillX]
          try (intro h; omega)) (fun j hj hc => by
          have h8 : ¬ j < 8 := by omega
          simp [fillX, h8])
        have HNX := Lib.hid hnx
        clear hge hle hvs hnx
        generalize (((data).data.toList.map fun x => Value.int .u8 (x.toNat : Int)).take 8) = vs at hcp HNX
        go_still_tail 11, (by kernel_rfl)
        change wpList _ _ _ _ _ wq.drew
        go_wp2_with fail
        go_roundw
        case rel => exact ⟨1, rfl, Or.inr (Or.inl ⟨rfl, HNX.out⟩)⟩
        case measure => simp [intOf]
    · have p1 := hi.p1
      cases y with
      | false =>
        have hx : bits .and .i64 (bits .andNot .i64 s v) 2 = 0 := by have := HY.out; simpa using this.symm
        go_wp2_with fail
        go_quiet (fail)
        go_wp2_with fail
        go_roundw
        case rel => exact ⟨2, rfl, Or.inr (Or.inr ⟨rfl, (hi.drewN _).congr (fun j hj => by simp [fillX])⟩)⟩
        case measure => simp [intOf]
      | true =>
        have hx : (bits .and .i64 (bits .andNot .i64 s v) 2 != 0) = true := HY.out.symm
        go_wp2_with fail
        go_quiet (fail)
        go_wp2_with fail
        have hW := hi.drewN nq
        generalize wr.drewN nq = wq at hW ⊢
        clear hi p1
        have hcp : ∀ cap, (Builtin.copy_ #[45, 9] 3 #[.slice (some ⟨g, 8, none⟩) 8 cap, .string (data.extract 8 data.size)]).run Try.prog wq.drew = .ok (goInt 8) (wq.drew.setCells g 8 ((((data.extract 8 data.size)).data.toList.map fun x => Value.int .u8 (x.toNat : Int)).take 8)) := by
          intro cap
          have := HCUT.out 8 data.size (by have := HT.out; omega) (by omega) wq.drew 3 cap (fun j hj => by rw [hW.drew.row j hj]; rfl) (fun j hj => hW.drew.rz j hj)
          exact this
        have d1 : (8 : Int) ≤ (data.size : Int) := by have := HT.out; omega
        have d2 : (16 : Int) ≤ (C : Int) := by omega
        have d3 : (16 : Nat) ≤ C := by omega
        have e1 : IntKind.i64.wrap 1 = 1 := by decide
        have e2 : IntKind.i64.wrap 2 = 2 := by decide
        have e8 : IntKind.i64.wrap 8 = 8 := by decide
        have e16 : IntKind.i64.wrap 16 = 16 := by decide
        have hvs := cut_vs data 8 data.size (by have := HT.out; omega)
        have hnx := hW.drew.copy 8 (by omega) _ (hvs.1.resolve_right (by have := HT.out; omega)) (fillX d data x true) (fun j hj => by
          rw [hvs.2 j hj]
          have hj8 : j < 8 := by simp at hj; omega
          congr 3
          simp [fillX]
          try (intro h; omega)) (fun j hj hc => by
          have h8 : j < 8 := by omega
          simp [fillX, h8])
        have HNX := Lib.hid hnx
        clear hge hle hvs hnx
        generalize ((((data.extract 8 data.size)).data.toList.map fun x => Value.int .u8 (x.toNat : Int)).take 8) = vs at hcp HNX
        go_still_tail 11, (by kernel_rfl)
        change wpList _ _ _ _ _ wq.drew
        go_wp2_with fail
        go_roundw
        case rel => exact ⟨2, rfl, Or.inr (Or.inr ⟨rfl, HNX.out⟩)⟩
        case measure => simp [intOf]
    · have hcv := hi.conv C
      have p1 := hi.p1
      have p2 := hi.p2
      have r0 := hi.r0
      have r1 := hi.r1
      have r2 := hi.r2
      have z0 := hi.z0
      have z1 := hi.z1
      have z2 := hi.z2
      have HI := Lib.hid hi
      clear hi
      go_wp2_with fail
      refine bodyPost_ret (v := .tuple #[.agg #[.string (mk16 (fillX d data x y)), .int .i64 (bits .or .i64 v s), .int .i64 e], .int .i64 0]) (by simp [results, Try.results24, go_sem, r0, r1, r2]) rfl ⟨rfl, ?_⟩
      exact ((HI.out.bel.setCell (p := ⟨w.heap.size + 1, 0, none⟩) (by simp) _).setCell (p := ⟨w.heap.size + 1, 1, none⟩) (by simp) _).setCell (p := ⟨w.heap.size + 1, 2, none⟩) (by simp) _
end Go.Proofs.Ythimcidkmnobnaa
