/- The order of entries. -/
import Derived.Test.YtodonnagmgbliaaAr
namespace Go.Proofs.Ytodonnagmgbliaa
open Go.ChangeShapes Go.WideShapes Go.ChangeAt Go.RowKit

def orI (x y : Int) : Int := if x ≠ 0 then x else y
theorem or_any2 (x y : Int) (g : Nat) (w : World) (h0 : w.cell? ⟨g, 0, none⟩ = some (.int .i64 x)) (h1 : w.cell? ⟨g, 1, none⟩ = some (.int .i64 y)) :
    Calls Try.prog 42 #[.slice (some ⟨g, 0, none⟩) 2 2] w fun e w' => e = .returned (.int .i64 (orI x y)) ∧ w' = w := or_any x y g w h0 h1
set_option maxHeartbeats 2000000 in
theorem compare_any (a b : Ar) (w : World) : Calls Try.prog 34 #[arVal a, arVal b] w (RetW (.int .i64 (cmpP a b)) w) := by
  unfold arVal
  have HR : Hid (cmpP a b = if cmpI a.pr b.pr ≠ 0 then cmpI a.pr b.pr else cmpI a.pa b.pa) := rfl
  generalize cmpP a b = r at *
  have HC := Lib.hid cmp_any
  have HO := Lib.hid or_any2
  obtain ⟨s, c, f, p, q⟩ := a
  obtain ⟨s', c', f', p', q'⟩ := b
  simp only at *
  go_enter Try.func34, Try.ntmps34
  go_wp2_with fail
  have HB : Hid (Below w.heap.size w ((w.alloc (Obj.cells #[Value.int IntKind.i64 s, Value.int IntKind.i64 c, Value.int IntKind.i64 f, Value.bool p, Value.bool q] 30)).alloc (Obj.cells #[Value.int IntKind.i64 s', Value.int IntKind.i64 c', Value.int IntKind.i64 f', Value.bool p', Value.bool q'] 30))) := ((Below.refl _ w).alloc (Nat.le_refl _) _).alloc (by simp) _
  have k1 := (Blk.new w s c f p q).below ((Below.refl _ _).alloc (Nat.le_refl _) (Obj.cells #[Value.int IntKind.i64 s', Value.int IntKind.i64 c', Value.int IntKind.i64 f', Value.bool p', Value.bool q'] 30))
  have k2 := Blk.new (w.alloc (.cells #[.int .i64 s, .int .i64 c, .int .i64 f, .bool p, .bool q] 30)) s' c' f' p' q'
  rw [show (w.alloc (.cells #[.int .i64 s, .int .i64 c, .int .i64 f, .bool p, .bool q] 30)).heap.size = w.heap.size + 1 from by simp] at k2
  generalize (w.alloc (Obj.cells #[Value.int IntKind.i64 s, Value.int IntKind.i64 c, Value.int IntKind.i64 f, Value.bool p, Value.bool q] 30)).alloc (Obj.cells #[Value.int IntKind.i64 s', Value.int IntKind.i64 c', Value.int IntKind.i64 f', Value.bool p', Value.bool q'] 30) = w2 at *
  have a0 := k1.c0; have a1 := k1.c1; have b0 := k2.c0; have b1 := k2.c1
  simp only at a0 a1 b0 b1
  clear k1 k2
  generalize w.heap.size + 1 = g2 at *
  generalize hg1 : w.heap.size = g1 at *
  go_region_held3 (fun w' => w'.cell? ⟨g1, 0, none⟩ = some (.int .i64 s) ∧ w'.cell? ⟨g1, 1, none⟩ = some (.int .i64 c) ∧ w'.cell? ⟨g2, 0, none⟩ = some (.int .i64 s') ∧ w'.cell? ⟨g2, 1, none⟩ = some (.int .i64 c')) (go_keep) (first | (go_at_call 43; refine (HC.out _ _ _).mono ?_; rintro e w3 ⟨rfl, rfl⟩) | (go_at_call 42; refine (HO.out (cmpI s s') (cmpI c c') _ _ (by simp) (by simp)).mono ?_; rintro e w3 ⟨rfl, rfl⟩))
  go_wp2_with fail
  go_ret
  exact RetW.mk (by rw [HR.out]; rfl) (by rw [hg1]; exact (HB.out.alloc (by have := HB.out.size; omega) _).drew)
end Go.Proofs.Ytodonnagmgbliaa
