/- Layer 46, shared texts of this seat, part 41. -/
import Derived.Lib.SlBuf
import Derived.Test.YtimhaidiclbnhaaGreatM40
/- Layer 46: begin: the model at the beginning. -/
set_option linter.unusedSimpArgs false
set_option linter.unusedVariables false
set_option maxRecDepth 100000
namespace Go.Proofs.YtimhaidiclbnhaaGreat.Ver
open Go.ChangeShapes Go.WideShapes Go.ChangeAt Go.RowKit
open Des (Dv De Dn DIn DBlk DAns Vi At RowOf ints DSz)
open Ara (Ar ARow)
open Con (StrRow)

def BegP (W : World) (pl sc : Value) (scr : List (List Opr)) (n : Nat) (lst : List ByteArray) (e : Ending) (w' : World) : Prop :=
  ∃ l : Ly, e = .returned (.tuple #[.pointer (some ⟨l.M, 0, none⟩), .int .i64 0]) ∧ l.pl = pl ∧ l.sc = sc ∧ Mm W.heap.size w' l (begS scr n lst) ∧ Below W.heap.size W w'
theorem size44 : (Tryz.prog.info? 44).map (·.size) = some 21 := by kernel_rfl
set_option maxHeartbeats 40000000 in
theorem begin_any (n : Nat) (pa : Option Addr) (pc : Nat) (scr : List (List Opr)) (sa : Option Addr) (scp ns : Nat) (a : Option Addr) (c : Nat) (lst : List ByteArray) (W : World)
    (hsc : ScIn W.heap.size W (.slice sa ns scp) scr) (hns : scr.length = ns) (hn : n ≤ 1000) (hns8 : 1 ≤ ns ∧ ns ≤ 8) (hl : StrRow 0 a c lst W) (hlen : lst.length ≤ n) (hsz : ∀ s, s ∈ lst → s.size ≤ 128) :
    Calls Tryz.prog 23 #[.agg (cfgC (.slice pa n pc) (.slice sa ns scp)).toArray, .slice a lst.length c] W (BegP W (.slice pa n pc) (.slice sa ns scp) scr n lst) := by
  have HE := Lib.hid (At.new W (cfgC (.slice pa n pc) (.slice sa ns scp)) 44)
  have HSC := Lib.hid hsc
  have HNS := Lib.hid hns
  have hnI : (n : Int) ≤ 1000 := by omega
  have hnsI : (ns : Int) ≤ 8 := by omega
  have hns : ns ≤ 1000 := by omega
  have HSZ := Lib.hid hsz
  have HL := Lib.hid hl
  clear hsc hsz hl
  unfold cfgC
  go_enter Tryz.func23, Tryz.ntmps23
  have x14 := HE.out.cell 14 (.slice pa n pc) rfl
  unfold cfgC at HE
  go_upto_region 2 with (fail)
  clear x14
  have HBW : Hid (Below W.heap.size W (World.alloc W (Obj.cells (cfgC (.slice pa n pc) (.slice sa ns scp)).toArray 44))) := Lib.hid ((Below.refl _ _).alloc (Nat.le_refl _) _)
  unfold cfgC at HBW
  generalize hW1 : World.alloc W (Obj.cells #[.slice none 0 0, .slice none 0 0, .int .i64 0, .int .i64 0, .int .i64 0, .int .i64 0, .int .i64 0, .int .i64 0, .int .i64 0, .int .i64 0, .slice none 0 0, .slice none 0 0, .int .i64 0, .int .i64 0, .slice pa n pc, .slice none 0 0, .slice none 0 0, .int .i64 0, .int .i64 0, .slice sa ns scp, .slice none 0 0] 44) = W1 at *
  have hbox : ∀ w, Below W1.heap.size W1 w → At w W.heap.size (cfgC (.slice pa n pc) (.slice sa ns scp)) := fun w hb => by
    have h1 : At W1 W.heap.size (cfgC (.slice pa n pc) (.slice sa ns scp)) := by rw [← hW1]; exact At.new W (cfgC (.slice pa n pc) (.slice sa ns scp)) 44
    exact h1.below hb h1.hi
  refine region_calmi (ι := Nat → Value) (fun F => (∀ ν, (F ν).tmps[2]? = some (.pointer (some ⟨W.heap.size, 0, none⟩))) ∧ (∀ ν, (F ν).tmps[6]? = some (.int .i64 (n : Int))) ∧ (∀ ν, (F ν).tmps[13]? = some (.agg #[.slice none 0 0, .slice none 0 0, .int .i64 0, .int .i64 0, .int .i64 0, .int .i64 0, .int .i64 0, .int .i64 0, .int .i64 0, .int .i64 0, .slice none 0 0, .slice none 0 0, .int .i64 0, .int .i64 0, .slice pa n pc, .slice none 0 0, .slice none 0 0, .int .i64 0, .int .i64 0, .slice sa ns scp, .slice none 0 0])) ∧ (∀ ν, (F ν).tmps[14]? = some (.int .i64 (n : Int))) ∧ (∀ ν, (F ν).tmps[15]? = some (ν 0)) ∧ (∀ ν, (F ν).tmps[16]? = some (.int .i64 (n : Int))) ∧ (∀ ν, (F ν).tmps[17]? = some (ν 1)) ∧ (∀ ν, (F ν).tmps[18]? = some (.int .i64 (n : Int))) ∧ (∀ ν, (F ν).tmps[19]? = some (ν 2)) ∧ (∀ ν, (F ν).tmps[20]? = some (.int .i64 (n : Int))) ∧ (∀ ν, (F ν).tmps[21]? = some (ν 3)) ∧ (∀ ν, (F ν).tmps[22]? = some (.int .i64 (n : Int))) ∧ (∀ ν, (F ν).tmps[23]? = some (ν 4)) ∧ (∀ ν, (F ν).tmps[24]? = some (.pointer (some ⟨W.heap.size, 19, none⟩))) ∧ (∀ ν, (F ν).tmps[25]? = some (.slice sa ns scp)) ∧ (∀ ν, (F ν).tmps[26]? = some (.int .i64 (ns : Int))) ∧ (∀ ν, (F ν).tmps[27]? = some (ν 5)) ∧ (∀ ν, (F ν).tmps[28]? = some (.pointer (some ⟨W.heap.size, 19, none⟩))) ∧ (∀ ν, (F ν).tmps[29]? = some (.slice sa ns scp)) ∧ (∀ ν, (F ν).tmps[30]? = some (.int .i64 (ns : Int))) ∧ (∀ ν, (F ν).tmps[31]? = some (ν 6)) ∧ (∀ ν, (F ν).tmps[32]? = some (.pointer (some ⟨W.heap.size, 19, none⟩))) ∧ (∀ ν, (F ν).tmps[33]? = some (.slice sa ns scp)) ∧ (∀ ν, (F ν).tmps[34]? = some (.int .i64 (ns : Int))) ∧ (∀ ν, (F ν).tmps[35]? = some (ν 7)) ∧ (∀ ν, (F ν).tmps[36]? = some (ν 8)) ∧ (∀ ν, (F ν).tmps[37]? = some (ν 9)) ∧ (∀ ν, (F ν).tmps[7]? = some (ν 10)) ∧ (∀ ν v, (F ν).put (some 15) v = F (updv ν 0 v)) ∧ (∀ ν v, (F ν).put (some 17) v = F (updv ν 1 v)) ∧ (∀ ν v, (F ν).put (some 19) v = F (updv ν 2 v)) ∧ (∀ ν v, (F ν).put (some 21) v = F (updv ν 3 v)) ∧ (∀ ν v, (F ν).put (some 23) v = F (updv ν 4 v)) ∧ (∀ ν v, (F ν).put (some 27) v = F (updv ν 5 v)) ∧ (∀ ν v, (F ν).put (some 31) v = F (updv ν 6 v)) ∧ (∀ ν v, (F ν).put (some 35) v = F (updv ν 7 v)) ∧ (∀ ν v, (F ν).put (some 36) v = F (updv ν 8 v)) ∧ (∀ ν v, (F ν).put (some 37) v = F (updv ν 9 v)) ∧ (∀ ν v, (F ν).put (some 7) v = F (updv ν 10 v))) (fun ν l w => BgT W1 (.slice pa n pc) (.slice sa ns scp) n ns ν l w) (fun ν => [.agg #[.slice none 0 0, .slice none 0 0, .int .i64 0, .int .i64 0, .int .i64 0, .int .i64 0, .int .i64 0, .int .i64 0, .int .i64 0, .int .i64 0, .slice none 0 0, .slice none 0 0, .int .i64 0, .int .i64 0, .slice pa n pc, .slice none 0 0, .slice none 0 0, .int .i64 0, .int .i64 0, .slice sa ns scp, .slice none 0 0], .int .i64 (n : Int), ν 0, .int .i64 (n : Int), ν 1, .int .i64 (n : Int), ν 2, .int .i64 (n : Int), ν 3, .int .i64 (n : Int), ν 4, .pointer (some ⟨W.heap.size, 19, none⟩), .slice sa ns scp, .int .i64 (ns : Int), ν 5, .pointer (some ⟨W.heap.size, 19, none⟩), .slice sa ns scp, .int .i64 (ns : Int), ν 6, .pointer (some ⟨W.heap.size, 19, none⟩), .slice sa ns scp, .int .i64 (ns : Int), ν 7, ν 8, ν 9, ν 10]) (by kernel_rfl) (by kernel_rfl) ?_ (fun _ => undef) ?_ ?_ ?_
  · exact ⟨fun ν => putAll_old _ _ _ 2 _ (by kernel_rfl) rfl, fun ν => putAll_old _ _ _ 6 _ (by kernel_rfl) rfl, fun ν => putAll_at _ _ _ 0 13 _ (by kernel_rfl) (by kernel_rfl) rfl (by simp), fun ν => putAll_at _ _ _ 1 14 _ (by kernel_rfl) (by kernel_rfl) rfl (by simp), fun ν => putAll_at _ _ _ 2 15 _ (by kernel_rfl) (by kernel_rfl) rfl (by simp), fun ν => putAll_at _ _ _ 3 16 _ (by kernel_rfl) (by kernel_rfl) rfl (by simp), fun ν => putAll_at _ _ _ 4 17 _ (by kernel_rfl) (by kernel_rfl) rfl (by simp), fun ν => putAll_at _ _ _ 5 18 _ (by kernel_rfl) (by kernel_rfl) rfl (by simp), fun ν => putAll_at _ _ _ 6 19 _ (by kernel_rfl) (by kernel_rfl) rfl (by simp), fun ν => putAll_at _ _ _ 7 20 _ (by kernel_rfl) (by kernel_rfl) rfl (by simp), fun ν => putAll_at _ _ _ 8 21 _ (by kernel_rfl) (by kernel_rfl) rfl (by simp), fun ν => putAll_at _ _ _ 9 22 _ (by kernel_rfl) (by kernel_rfl) rfl (by simp), fun ν => putAll_at _ _ _ 10 23 _ (by kernel_rfl) (by kernel_rfl) rfl (by simp), fun ν => putAll_at _ _ _ 11 24 _ (by kernel_rfl) (by kernel_rfl) rfl (by simp), fun ν => putAll_at _ _ _ 12 25 _ (by kernel_rfl) (by kernel_rfl) rfl (by simp), fun ν => putAll_at _ _ _ 13 26 _ (by kernel_rfl) (by kernel_rfl) rfl (by simp), fun ν => putAll_at _ _ _ 14 27 _ (by kernel_rfl) (by kernel_rfl) rfl (by simp), fun ν => putAll_at _ _ _ 15 28 _ (by kernel_rfl) (by kernel_rfl) rfl (by simp), fun ν => putAll_at _ _ _ 16 29 _ (by kernel_rfl) (by kernel_rfl) rfl (by simp), fun ν => putAll_at _ _ _ 17 30 _ (by kernel_rfl) (by kernel_rfl) rfl (by simp), fun ν => putAll_at _ _ _ 18 31 _ (by kernel_rfl) (by kernel_rfl) rfl (by simp), fun ν => putAll_at _ _ _ 19 32 _ (by kernel_rfl) (by kernel_rfl) rfl (by simp), fun ν => putAll_at _ _ _ 20 33 _ (by kernel_rfl) (by kernel_rfl) rfl (by simp), fun ν => putAll_at _ _ _ 21 34 _ (by kernel_rfl) (by kernel_rfl) rfl (by simp), fun ν => putAll_at _ _ _ 22 35 _ (by kernel_rfl) (by kernel_rfl) rfl (by simp), fun ν => putAll_at _ _ _ 23 36 _ (by kernel_rfl) (by kernel_rfl) rfl (by simp), fun ν => putAll_at _ _ _ 24 37 _ (by kernel_rfl) (by kernel_rfl) rfl (by simp), fun ν => putAll_at _ _ _ 25 7 _ (by kernel_rfl) (by kernel_rfl) rfl (by simp), fun ν v => putAll_put _ _ _ 2 15 v (by kernel_rfl) (by kernel_rfl) (by simp), fun ν v => putAll_put _ _ _ 4 17 v (by kernel_rfl) (by kernel_rfl) (by simp), fun ν v => putAll_put _ _ _ 6 19 v (by kernel_rfl) (by kernel_rfl) (by simp), fun ν v => putAll_put _ _ _ 8 21 v (by kernel_rfl) (by kernel_rfl) (by simp), fun ν v => putAll_put _ _ _ 10 23 v (by kernel_rfl) (by kernel_rfl) (by simp), fun ν v => putAll_put _ _ _ 14 27 v (by kernel_rfl) (by kernel_rfl) (by simp), fun ν v => putAll_put _ _ _ 18 31 v (by kernel_rfl) (by kernel_rfl) (by simp), fun ν v => putAll_put _ _ _ 22 35 v (by kernel_rfl) (by kernel_rfl) (by simp), fun ν v => putAll_put _ _ _ 23 36 v (by kernel_rfl) (by kernel_rfl) (by simp), fun ν v => putAll_put _ _ _ 24 37 v (by kernel_rfl) (by kernel_rfl) (by simp), fun ν v => putAll_put _ _ _ 25 7 v (by kernel_rfl) (by kernel_rfl) (by simp)⟩
  · exact BgT.start
  · rintro F ⟨f2, f6, f13, f14, f15, f16, f17, f18, f19, f20, f21, f22, f23, f24, f25, f26, f27, f28, f29, f30, f31, f32, f33, f34, f35, f36, f37, f7, p15, p17, p19, p21, p23, p27, p31, p35, p36, p37, p7⟩
    refine stepsi_cons ?_ (stepsi_cons ?_ (stepsi_cons ?_ (stepsi_cons ?_ (stepsi_cons ?_ (stepsi_cons ?_ (stepsi_cons ?_ (stepsi_cons ?_ (stepsi_cons ?_ (stepsi_cons ?_ (stepsi_cons ?_ (stepsi_cons ?_ (stepsi_cons ?_ (stepsi_cons ?_ (stepsi_cons ?_ (stepsi_cons ?_ (stepsi_cons ?_ (stepsi_cons ?_ (stepsi_cons ?_ (stepsi_cons ?_ (stepsi_cons ?_ (stepsi_cons ?_ (stepsi_cons ?_ (stepsi_cons ?_ (stepsi_cons ?_ (stepsi_cons ?_ stepsi_nil)))))))))))))))))))))))))
    · refine stepi_of rfl (fun ν l w hcl hT hun hr K hK => ?_)
      have hA := hbox w hT.bel
      exact wp_load_mid 44 (.tmp 2) rfl W.heap.size 0 (by simp [Act.eval, f2 ν]) _ _ hA.r Tryz.underlying44 rfl size44 (kput (d := 13) (f13 ν) (hK ν w (hT.pure 0 (by decide) (by omega) (by omega) (by omega))))
    · refine stepi_of rfl (fun ν l w hcl hT hun hr K hK => ?_)
      have g6 := f6 ν
      have HK := Lib.hid (hK ν w (hT.pure 1 (by decide) (by omega) (by omega) (by omega)))
      clear hK hT hr hun hcl
      go_simp
      exact kput (d := 14) (f14 ν) HK.out
    · refine stepi_of rfl (fun ν l w hcl hT hun hr K hK => ?_)
      refine wp_make w 47 9 (.tmp 14) (.tmp 14) n _ rfl (by simp [Act.eval, f14 ν]) (by simp [Act.eval, f14 ν]) (run_make1 w 47 9 (.string ⟨#[]⟩) 16 n Tryz.underlying47 (by kernel_rfl) rfl hn (by omega)) ?_
      rw [show (F ν).put (some 15) _ = F (updv ν 0 _) from p15 ν _]
      exact hK _ _ (hT.make (j := 0) (by omega) hun rfl)
    · refine stepi_of rfl (fun ν l w hcl hT hun hr K hK => ?_)
      have g6 := f6 ν
      have HK := Lib.hid (hK ν w (hT.pure 3 (by decide) (by omega) (by omega) (by omega)))
      clear hK hT hr hun hcl
      go_simp
      exact kput (d := 16) (f16 ν) HK.out
    · refine stepi_of rfl (fun ν l w hcl hT hun hr K hK => ?_)
      refine wp_make w 22 3 (.tmp 16) (.tmp 16) n _ rfl (by simp [Act.eval, f16 ν]) (by simp [Act.eval, f16 ν]) (run_make1 w 22 3 (.int .i64 0) 8 n Tryz.underlying22 (by kernel_rfl) rfl hn (by omega)) ?_
      rw [show (F ν).put (some 17) _ = F (updv ν 1 _) from p17 ν _]
      exact hK _ _ (hT.make (j := 1) (by omega) hun rfl)
    · refine stepi_of rfl (fun ν l w hcl hT hun hr K hK => ?_)
      have g6 := f6 ν
      have HK := Lib.hid (hK ν w (hT.pure 5 (by decide) (by omega) (by omega) (by omega)))
      clear hK hT hr hun hcl
      go_simp
      exact kput (d := 18) (f18 ν) HK.out
    · refine stepi_of rfl (fun ν l w hcl hT hun hr K hK => ?_)
      refine wp_make w 79 51 (.tmp 18) (.tmp 18) n _ rfl (by simp [Act.eval, f18 ν]) (by simp [Act.eval, f18 ν]) (run_make1 w 79 51 (.int .i64 0) 8 n Tryz.underlying79 (by kernel_rfl) rfl hn (by omega)) ?_
      rw [show (F ν).put (some 19) _ = F (updv ν 2 _) from p19 ν _]
      exact hK _ _ (hT.make (j := 2) (by omega) hun rfl)
    · refine stepi_of rfl (fun ν l w hcl hT hun hr K hK => ?_)
      have g6 := f6 ν
      have HK := Lib.hid (hK ν w (hT.pure 7 (by decide) (by omega) (by omega) (by omega)))
      clear hK hT hr hun hcl
      go_simp
      exact kput (d := 20) (f20 ν) HK.out
    · refine stepi_of rfl (fun ν l w hcl hT hun hr K hK => ?_)
      refine wp_make w 50 57 (.tmp 20) (.tmp 20) n _ rfl (by simp [Act.eval, f20 ν]) (by simp [Act.eval, f20 ν]) (run_make2 w n hn) ?_
      rw [show (F ν).put (some 21) _ = F (updv ν 3 _) from p21 ν _]
      exact hK _ _ (hT.make (j := 3) (by omega) hun rfl)
    · refine stepi_of rfl (fun ν l w hcl hT hun hr K hK => ?_)
      have g6 := f6 ν
      have HK := Lib.hid (hK ν w (hT.pure 9 (by decide) (by omega) (by omega) (by omega)))
      clear hK hT hr hun hcl
      go_simp
      exact kput (d := 22) (f22 ν) HK.out
    · refine stepi_of rfl (fun ν l w hcl hT hun hr K hK => ?_)
      refine wp_make w 81 22 (.tmp 22) (.tmp 22) n _ rfl (by simp [Act.eval, f22 ν]) (by simp [Act.eval, f22 ν]) (run_make1 w 81 22 (.slice none 0 0) 24 n Tryz.underlying81 (by kernel_rfl) rfl hn (by omega)) ?_
      rw [show (F ν).put (some 23) _ = F (updv ν 4 _) from p23 ν _]
      exact hK _ _ (hT.make (j := 4) (by omega) hun rfl)
    · refine stepi_of rfl (fun ν l w hcl hT hun hr K hK => ?_)
      have g2 := f2 ν
      have HK := Lib.hid (hK ν w (hT.pure 11 (by decide) (by omega) (by omega) (by omega)))
      clear hK hT hr hun hcl
      go_simp
      exact kput (d := 24) (f24 ν) HK.out
    · refine stepi_of rfl (fun ν l w hcl hT hun hr K hK => ?_)
      have g24 := f24 ν
      have hA := (hbox w hT.bel).cell 19 (.slice sa ns scp) rfl
      have HK := Lib.hid (hK ν w (hT.pure 12 (by decide) (by omega) (by omega) (by omega)))
      clear hK hT hr hun hcl
      go_simp
      exact kput (d := 25) (f25 ν) HK.out
    · refine stepi_of rfl (fun ν l w hcl hT hun hr K hK => ?_)
      have g25 := f25 ν
      have HK := Lib.hid (hK ν w (hT.pure 13 (by decide) (by omega) (by omega) (by omega)))
      clear hK hT hr hun hcl
      go_simp
      exact kput (d := 26) (f26 ν) HK.out
    · refine stepi_of rfl (fun ν l w hcl hT hun hr K hK => ?_)
      refine wp_make w 84 106 (.tmp 26) (.tmp 26) ns _ rfl (by simp [Act.eval, f26 ν]) (by simp [Act.eval, f26 ν]) (run_make1 w 84 106 (.slice none 0 0) 24 ns Tryz.underlying84 (by kernel_rfl) rfl hns (by omega)) ?_
      rw [show (F ν).put (some 27) _ = F (updv ν 5 _) from p27 ν _]
      exact hK _ _ (hT.make (j := 5) (by omega) hun rfl)
    · refine stepi_of rfl (fun ν l w hcl hT hun hr K hK => ?_)
      have g2 := f2 ν
      have HK := Lib.hid (hK ν w (hT.pure 15 (by decide) (by omega) (by omega) (by omega)))
      clear hK hT hr hun hcl
      go_simp
      exact kput (d := 28) (f28 ν) HK.out
    · refine stepi_of rfl (fun ν l w hcl hT hun hr K hK => ?_)
      have g28 := f28 ν
      have hA := (hbox w hT.bel).cell 19 (.slice sa ns scp) rfl
      have HK := Lib.hid (hK ν w (hT.pure 16 (by decide) (by omega) (by omega) (by omega)))
      clear hK hT hr hun hcl
      go_simp
      exact kput (d := 29) (f29 ν) HK.out
    · refine stepi_of rfl (fun ν l w hcl hT hun hr K hK => ?_)
      have g29 := f29 ν
      have HK := Lib.hid (hK ν w (hT.pure 17 (by decide) (by omega) (by omega) (by omega)))
      clear hK hT hr hun hcl
      go_simp
      exact kput (d := 30) (f30 ν) HK.out
    · refine stepi_of rfl (fun ν l w hcl hT hun hr K hK => ?_)
      refine wp_make w 22 3 (.tmp 30) (.tmp 30) ns _ rfl (by simp [Act.eval, f30 ν]) (by simp [Act.eval, f30 ν]) (run_make1 w 22 3 (.int .i64 0) 8 ns Tryz.underlying22 (by kernel_rfl) rfl hns (by omega)) ?_
      rw [show (F ν).put (some 31) _ = F (updv ν 6 _) from p31 ν _]
      exact hK _ _ (hT.make (j := 6) (by omega) hun rfl)
    · refine stepi_of rfl (fun ν l w hcl hT hun hr K hK => ?_)
      have g2 := f2 ν
      have HK := Lib.hid (hK ν w (hT.pure 19 (by decide) (by omega) (by omega) (by omega)))
      clear hK hT hr hun hcl
      go_simp
      exact kput (d := 32) (f32 ν) HK.out
    · refine stepi_of rfl (fun ν l w hcl hT hun hr K hK => ?_)
      have g32 := f32 ν
      have hA := (hbox w hT.bel).cell 19 (.slice sa ns scp) rfl
      have HK := Lib.hid (hK ν w (hT.pure 20 (by decide) (by omega) (by omega) (by omega)))
      clear hK hT hr hun hcl
      go_simp
      exact kput (d := 33) (f33 ν) HK.out
    · refine stepi_of rfl (fun ν l w hcl hT hun hr K hK => ?_)
      have g33 := f33 ν
      have HK := Lib.hid (hK ν w (hT.pure 21 (by decide) (by omega) (by omega) (by omega)))
      clear hK hT hr hun hcl
      go_simp
      exact kput (d := 34) (f34 ν) HK.out
    · refine stepi_of rfl (fun ν l w hcl hT hun hr K hK => ?_)
      refine wp_make w 22 3 (.tmp 34) (.tmp 34) ns _ rfl (by simp [Act.eval, f34 ν]) (by simp [Act.eval, f34 ν]) (run_make1 w 22 3 (.int .i64 0) 8 ns Tryz.underlying22 (by kernel_rfl) rfl hns (by omega)) ?_
      rw [show (F ν).put (some 35) _ = F (updv ν 7 _) from p35 ν _]
      exact hK _ _ (hT.make (j := 7) (by omega) hun rfl)
    · refine stepi_of rfl (fun ν l w hcl hT hun hr K hK => ?_)
      obtain ⟨β, hv, hb⟩ := hT.build (fun j hj => by
        rcases j with _ | _ | _ | _ | _ | _ | _ | _ | j
        · exact hr ⟨2, Ground.data⟩ (by simp) rfl
        · exact hr ⟨4, Ground.data⟩ (by simp) rfl
        · exact hr ⟨6, Ground.data⟩ (by simp) rfl
        · exact hr ⟨8, Ground.data⟩ (by simp) rfl
        · exact hr ⟨10, Ground.data⟩ (by simp) rfl
        · exact hr ⟨14, Ground.data⟩ (by simp) rfl
        · exact hr ⟨18, Ground.data⟩ (by simp) rfl
        · exact hr ⟨22, Ground.data⟩ (by simp) rfl
        · omega) hun
      have HK := Lib.hid (hK (updv ν 8 (.agg (mzC (.slice pa n pc) (.slice sa ns scp) n ns β).toArray)) w hb)
      have e0 : ν 0 = .slice (some ⟨β 0, 0, none⟩) n n := hv 0 (by omega)
      have e1 : ν 1 = .slice (some ⟨β 1, 0, none⟩) n n := hv 1 (by omega)
      have e2 : ν 2 = .slice (some ⟨β 2, 0, none⟩) n n := hv 2 (by omega)
      have e3 : ν 3 = .slice (some ⟨β 3, 0, none⟩) n n := hv 3 (by omega)
      have e4 : ν 4 = .slice (some ⟨β 4, 0, none⟩) n n := hv 4 (by omega)
      have e5 : ν 5 = .slice (some ⟨β 5, 0, none⟩) ns ns := hv 5 (by omega)
      have e6 : ν 6 = .slice (some ⟨β 6, 0, none⟩) ns ns := hv 6 (by omega)
      have e7 : ν 7 = .slice (some ⟨β 7, 0, none⟩) ns ns := hv 7 (by omega)
      clear hK hT hr hv hb hun hcl
      have HP := Lib.hid (p36 ν (.agg (mzC (.slice pa n pc) (.slice sa ns scp) n ns β).toArray))
      go_simp
      refine (?_ : K ((F ν).put (some 36) (.agg (mzC (.slice pa n pc) (.slice sa ns scp) n ns β).toArray)) w)
      rw [HP.out]
      exact HK.out
    · refine stepi_of rfl (fun ν l w hcl hT hun hr K hK => ?_)
      obtain ⟨β, he, hb⟩ := hT.box (hr ⟨23, Ground.data⟩ (by simp) rfl) hun
      have HK := Lib.hid (hK _ _ hb)
      clear hK hT hr hb hun hcl
      have HP := Lib.hid (p37 ν)
      go_simp
      refine (?_ : K ((F ν).put (some 37) (.pointer (some ⟨w.heap.size, 0, none⟩))) (w.alloc (.cells (mzC (.slice pa n pc) (.slice sa ns scp) n ns β).toArray 86)))
      rw [HP.out]
      exact HK.out
    · refine stepi_of rfl (fun ν l w hcl hT hun hr K hK => ?_)
      have HK := Lib.hid (hK (updv ν 10 (ν 9)) w (hT.last (hr ⟨24, Ground.data⟩ (by simp) rfl)))
      have g37 := f37 ν
      clear hK hT hr hun hcl
      have HP := Lib.hid (p7 ν (ν 9))
      go_simp
      refine (?_ : K ((F ν).put (some 7) (ν 9)) w)
      rw [HP.out]
      exact HK.out
  · intro ν l w hT hall
    have HBX := Lib.hid hbox
    clear hbox
    obtain ⟨β, hb⟩ := hT
    have HM0 := Lib.hid (begin_mm (scr := scr) (W := W) hb hall HBW.out HSC.out HNS.out)
    have HB0 : Hid (Below W1.heap.size W1 w) := Lib.hid hb.mks.bel
    obtain ⟨_, h9, _, _, _⟩ := hb.bx (hall 24 (by simp))
    have h10 := (hb.la (hall 25 (by simp))).2
    rw [h9] at h10
    obtain ⟨l0, hl0⟩ : ∃ l0, l0 = begL β (.slice pa n pc) (.slice sa ns scp) n ns := ⟨_, rfl⟩
    rw [show β 8 = l0.M from by rw [hl0]; rfl] at h9 h10
    rw [← hl0] at HM0
    have HPL : Hid (l0.pl = .slice pa n pc ∧ l0.sc = .slice sa ns scp) := Lib.hid (by rw [hl0]; exact ⟨rfl, rfl⟩)
    clear hb hl0 hall
    simp only [putAll, Act.put, List.setIfInBounds_toArray, List.set_cons_zero, List.set_cons_succ, h10]
    clear h9 h10
    generalize ν 0 = n0
    generalize ν 1 = n1
    generalize ν 2 = n2
    generalize ν 3 = n3
    generalize ν 4 = n4
    generalize ν 5 = n5
    generalize ν 6 = n6
    generalize ν 7 = n7
    generalize ν 8 = n8
    generalize ν 9 = n9
    obtain ⟨w2, hw2⟩ : ∃ w2, w2 = w := ⟨_, rfl⟩
    subst hw2
    have HNEW : Hid (∀ W', Calls Tryz.prog 36 #[.int .i64 (ns : Int)] W' (Des.OutP W' Dv.nil (Des.newD (ns : Int)) (fun v => .tuple #[v, .int .i64 (Des.newE (ns : Int))]))) := Lib.hid fun W' => Des.new25_any (ns : Int) W'
    have x19 := (HBX.out w2 HB0.out).cell 19 (.slice sa ns scp) rfl
    go_upto_region 3 with (fail)
    go_wp2_with fail
    refine (HNEW.out _).mono ?_
    rintro e w3 ⟨y, rfl, hyp, hda, hb3⟩
    unfold Des.dVal
    have HM3 := Lib.hid (HM0.out.below hb3)
    have HVY : Hid (Vi w3 (vx l0) y) := Lib.hid ⟨hda.di, fun b hbb hm => by
      rcases hda.blk b hbb with h1 | h1
      · rcases h1 with ⟨q, h2, _⟩ | ⟨q, h2, _⟩ | ⟨z, hz, _⟩
        · cases h2
        · cases h2
        · cases hz
      · have := HM0.out.hix _ hm; omega⟩
    have HY := Lib.hid hyp
    have HB3 := Lib.hid hb3
    clear hda hyp hb3 x19 HNEW
    obtain ⟨mO, mP⟩ := HM3.out.cO
    have z0 := HM3.out.m.free 24 (by simp [mC])
    have z1 := HM3.out.m.free 25 (by simp [mC])
    have z2 := HM3.out.m.hi
    go_upto_region 4 with (fail)
    generalize hw4 : (w3.setCell ⟨l0.M, 24, none⟩ (.slice y.oa y.o.length y.oc)).setCell ⟨l0.M, 25, none⟩ (.slice y.ta y.t.length y.tc) = w4 at *
    have HM4 : Hid (Mm W.heap.size w4 { l0 with x := y } (begK scr n (List.replicate n ⟨#[]⟩) (Des.newD scr.length) 0)) := Lib.hid (by
      rw [← hw4]
      have h1 := HM3.out.putO y HVY.out
      rw [HY.out, ← HNS.out] at h1
      exact h1)
    have hW1s : W.heap.size ≤ W1.heap.size := HBW.out.size
    have HB2' : Hid (Below W.heap.size W w3) := Lib.hid (HBW.out.trans ((HB0.out.mono hW1s).trans (HB3.out.mono (Nat.le_trans hW1s HB0.out.size))))
    have hlM : W.heap.size ≤ l0.M := HM3.out.lo _ (mvs l0).1
    have HB4 : Hid (Below W.heap.size W w4) := Lib.hid (by rw [← hw4]; exact (HB2'.out.setCell (p := ⟨l0.M, 24, none⟩) hlM _).setCell (p := ⟨l0.M, 25, none⟩) hlM _)
    clear hw4 mO mP z0 z1 z2 HM3 HVY HM0 HB0 HB2' HB3 HBX
    obtain ⟨l1, hl1⟩ : ∃ l1 : Ly, l1 = { l0 with x := y } := ⟨_, rfl⟩
    rw [← hl1] at HM4
    have HL1 : Hid (l1.M = l0.M ∧ l1.F = l0.F ∧ l1.pl = .slice pa n pc ∧ l1.sc = .slice sa ns scp) := Lib.hid (by rw [hl1]; exact ⟨rfl, rfl, HPL.out⟩)
    rw [show l0.M = l1.M from HL1.out.1.symm] at *
    clear hl1 HPL hlM HY
    have hlI : ¬ (n : Int) < (lst.length : Int) := by omega
    go_upto_region 6 with (fail)
    have mF : w4.cell? ⟨l1.M, 21, none⟩ = some (.slice (some ⟨l1.F, 0, none⟩) n n) := by
      have := HM4.out.cF
      simpa [begK] using this
    have HFA := Lib.hid HM4.out.f
    have hFl : ((begK scr n (List.replicate n ⟨#[]⟩) (Des.newD scr.length) 0).fs.map Value.string).length = n := by simp [begK]
    have HRUN : Hid ((Builtin.copy_ #[47, 47] 3 #[.slice (some ⟨l1.F, 0, none⟩) n n, .slice a lst.length c]).run Tryz.prog w4 = .ok (goInt ((lst.map Value.string).length : Nat)) (w4.setCells l1.F 0 (lst.map Value.string))) := Lib.hid (by
      rcases HL.out with ⟨e1, e2, e3⟩ | ⟨g, e1, e2, e3, e4, e5, e6⟩
      · subst e1 e2 e3
        exact run_copy_none w4 47 47 3 9 _ _ n n 0 0 Tryz.underlying47 (by kernel_rfl) (by simp)
      · subst e1
        refine run_copy_cells w4 47 47 3 9 l1.F 0 n n ⟨g, 0, none⟩ lst.length c (lst.map Value.string) Tryz.underlying47 (by kernel_rfl) (by rw [List.length_map]; exact (Nat.min_eq_left hlen).symm) (fun j v hj => ?_) (fun j hj => ?_) (fun j hj => ?_) (fun v hv => ?_)
        · have hjl : j < lst.length := by have := (List.getElem?_eq_some_iff.1 hj).1; simpa using this
          rw [List.getElem?_map, List.getElem?_eq_getElem hjl] at hj
          simp at hj
          subst hj
          rw [Addr.add_lit, Nat.zero_add]
          rw [(HB4.out.cell (p := ⟨g, j, none⟩) e3), e6 j hjl]
          simp [List.getD, hjl]
        · rw [List.length_map] at hj
          exact (HFA.out.t (0 + j) (by rw [hFl]; omega) |> fun h => by simpa using h.1)
        · rw [List.length_map] at hj
          have h1 := HFA.out.free j (by rw [hFl]; omega)
          simpa using h1
        · obtain ⟨s, _, rfl⟩ := List.mem_map.1 hv
          rfl)
    have HM5 : Hid (Mm W.heap.size (w4.setCells l1.F 0 (lst.map Value.string)) l1 (begK scr n (begF n lst) (Des.newD scr.length) 0)) := Lib.hid (by
      have h1 := HM4.out.putFs lst 0
      have e : setFs (begK scr n (List.replicate n ⟨#[]⟩) (Des.newD scr.length) 0).fs 0 lst = begF n lst := setFs_beg n lst hlen
      rw [e] at h1
      have e2 : { begK scr n (List.replicate n ⟨#[]⟩) (Des.newD scr.length) 0 with fs := begF n lst } = begK scr n (begF n lst) (Des.newD scr.length) 0 := by simp [begK]
      rw [e2] at h1
      exact h1)
    have hlF : W.heap.size ≤ l1.F := HM4.out.lo _ (mvs l1).2.1
    have HB5 : Hid (Below W.heap.size W (w4.setCells l1.F 0 (lst.map Value.string))) := Lib.hid (below_setCells HB4.out hlF _ 0)
    have mF5 : (w4.setCells l1.F 0 (lst.map Value.string)).cell? ⟨l1.M, 21, none⟩ = some (.slice (some ⟨l1.F, 0, none⟩) n n) := by
      have := HM5.out.cF
      simpa [begK, begF_len] using this
    clear HM4 HB4 HFA hFl hlF
    have HXS : Hid (∀ x, x = lst.map Value.string → x = lst.map Value.string) := Lib.hid fun _ h => h
    obtain ⟨xs, hxs⟩ : ∃ xs, xs = lst.map Value.string := ⟨_, rfl⟩
    rw [← hxs] at HRUN HM5 HB5 mF5
    clear hxs HXS
    go_wp2_with ((with_reducible show wpList _ _ _ _ _ _); refine Lib.wpList_copy_run _ rfl (.tmp 55) (.tmp 56) 47 47 rfl (.slice (some ⟨l1.F, 0, none⟩) n n) (.slice a lst.length c) rfl rfl HRUN.out ?_)
    clear HRUN mF mF5
    generalize w4.setCells l1.F 0 xs = w5 at *
    go_loopw [63] (fun v63 wr => ∃ (k : Nat) (l2 : Ly), k ≤ n ∧ v63 = .int .i64 k ∧ Hid (l2.M = l1.M ∧ l2.F = l1.F ∧ l2.pl = .slice pa n pc ∧ l2.sc = .slice sa ns scp) ∧ Hid (Mm W.heap.size wr l2 (begK scr n (begF n lst) (Des.newD scr.length) k)) ∧ Hid (Below W.heap.size W wr)) (fun v63 _ => n - (intOf v63).toNat)
    case atStart => exact ⟨0, l1, Nat.zero_le _, rfl, ⟨rfl, rfl, HL1.out.2.2⟩, HM5, HB5⟩
    case round =>
      obtain ⟨k, l2, hk, rfl, HL2, HMr, HBr⟩ := hrel
      clear HM5 HB5
      by_cases hlt : k < n
      · have hltI : (k : Int) < (n : Int) := by omega
        have fk : wr.cell? ⟨l1.F, k, none⟩ = some (.string ((begF n lst).getD k ⟨#[]⟩)) := by
          have h1 := HMr.out.f.cell k _ (fs_at (begF n lst) k (by rw [begF_len]; exact hlt))
          rw [HL2.out.2.1] at h1
          exact h1
        have HSK := Lib.hid (begK_set scr n (begF n lst) (Des.newD scr.length) k hlt)
        have hsk : ((begF n lst).getD k ⟨#[]⟩).size ≤ 128 := by
          rw [begF_get n lst k hlt]
          by_cases h1 : k < lst.length
          · exact HSZ.out _ (by rw [show lst.getD k ⟨#[]⟩ = lst[k] from by simp [List.getD, h1]]; exact List.getElem_mem h1)
          · rw [show lst.getD k ⟨#[]⟩ = ⟨#[]⟩ from by simp [List.getD, h1]]
            show 0 ≤ 128
            omega
        generalize (begF n lst).getD k ⟨#[]⟩ = sk at *
        have hskI : ¬ (128 : Int) < (sk.size : Int) := by omega
        go_upto_region 12 with (fail)
        have HMd := Lib.hid (HMr.out.below (Below.refl wr.heap.size wr).drew)
        have HBd := Lib.hid (HBr.out.trans ((Below.refl W.heap.size wr).drew))
        have hMM := HL2.out.1
        have mH : wr.drew.cell? ⟨l1.M, 27, none⟩ = some (.slice (some ⟨l2.H, 0, none⟩) n n) := by
          have := HMd.out.cH
          rw [hMM] at this
          simpa [begK, begF_len] using this
        have ymH : wr.cell? ⟨l1.M, 27, none⟩ = some (.slice (some ⟨l2.H, 0, none⟩) n n) := by
          have := HMr.out.cH
          rw [hMM] at this
          simpa [begK, begF_len] using this
        have HMM := Lib.hid hMM
        clear hMM
        have HCH : Hid (∀ W', Calls Tryz.prog 37 #[.agg #[.slice none 0 0, .int .i64 0], .string sk] W' fun e w' => ∃ a' cap', e = .returned (.agg #[.slice a' 1 cap', .int .i64 0]) ∧ StrRow W'.heap.size a' cap' [sk] w' ∧ Below W'.heap.size W' w') := Lib.hid fun W' => Con.change_any 0 none [] 0 0 sk W' (Or.inl ⟨rfl, rfl, rfl⟩) (by simp)
        have hHl : ((begK scr n (begF n lst) (Des.newD scr.length) k).h).length = n := by simp [begK]
        have h2H : l2.H ≠ l1.M := by rw [← HMM.out]; exact HMr.out.ne.1.2.2.2.2.1.symm
        have q1 : ¬ l2.H = l1.M := h2H
        have q2 : ¬ l1.M = l2.H := fun e => h2H e.symm
        refine wp_region_held_drew (S := fun w' => w'.cell? ⟨l1.M, 27, none⟩ = some (.slice (some ⟨l2.H, 0, none⟩) n n)) (by kernel_rfl) (by (try dsimp only); go_keep) (fun hHeld => ?_)
        refine wpAnyH_take (i := 0) (oi := { dst := some 71, op := Op.move (Operand.tmp 7), type := 76, pos := "verify.go:41", after := #[], guard := none }) (v := ?_) rfl (by kernel_rfl) (by kernel_rfl) (by kernel_rfl) (fun _ _ _ h => h) (Or.inl ⟨by rfl, ?_⟩) (by assumption) ?_
        rotate_left
        focus ((intro w hSw; (try dsimp only at hSw); go_simp) <;> (try with_reducible rfl))
        try simp only [Act.put, List.setIfInBounds_toArray, List.set_cons_zero, List.set_cons_succ]
        refine wpAnyH_take (i := 1) (oi := { dst := some 72, op := Op.nilCheck (Operand.tmp 71), type := 0, pos := "verify.go:41", after := #[{ on := 0, ground := Ground.data }], guard := none }) (v := ?_) rfl (by kernel_rfl) (by kernel_rfl) (by kernel_rfl) (fun _ _ _ h => h) (Or.inl ⟨by rfl, ?_⟩) (by assumption) ?_
        rotate_left
        focus ((intro w hSw; (try dsimp only at hSw); go_simp) <;> (try with_reducible rfl))
        try simp only [Act.put, List.setIfInBounds_toArray, List.set_cons_zero, List.set_cons_succ]
        refine wpAnyH_take (i := 2) (oi := { dst := some 73, op := Op.fieldAddr 86 (Operand.tmp 72) 6, type := 0, pos := "verify.go:41", after := #[{ on := 1, ground := Ground.data }], guard := none }) (v := ?_) rfl (by kernel_rfl) (by kernel_rfl) (by kernel_rfl) (fun _ _ _ h => h) (Or.inl ⟨by rfl, ?_⟩) (by assumption) ?_
        rotate_left
        focus ((intro w hSw; (try dsimp only at hSw); go_simp) <;> (try with_reducible rfl))
        try simp only [Act.put, List.setIfInBounds_toArray, List.set_cons_zero, List.set_cons_succ]
        refine wpAnyH_take (i := 3) (oi := { dst := some 74, op := Op.load 50 (Operand.tmp 73), type := 50, pos := "verify.go:41", after := #[{ on := 2, ground := Ground.data }], guard := none }) (v := ?_) rfl (by kernel_rfl) (by kernel_rfl) (by kernel_rfl) (fun _ _ _ h => h) (Or.inl ⟨by rfl, ?_⟩) (by assumption) ?_
        rotate_left
        focus ((intro w hSw; (try dsimp only at hSw); go_simp) <;> (try with_reducible rfl))
        try simp only [Act.put, List.setIfInBounds_toArray, List.set_cons_zero, List.set_cons_succ]
        refine wpAnyH_take (i := 4) (oi := { dst := some 75, op := Op.move (Operand.tmp 8), type := 3, pos := "verify.go:41", after := #[], guard := none }) (v := ?_) rfl (by kernel_rfl) (by kernel_rfl) (by kernel_rfl) (fun _ _ _ h => h) (Or.inl ⟨by rfl, ?_⟩) (by assumption) ?_
        rotate_left
        focus ((intro w hSw; (try dsimp only at hSw); go_simp) <;> (try with_reducible rfl))
        try simp only [Act.put, List.setIfInBounds_toArray, List.set_cons_zero, List.set_cons_succ]
        refine wpAnyH_take (i := 5) (oi := { dst := some 76, op := Op.build 57 #[], type := 57, pos := "verify.go:41", after := #[], guard := none }) (v := ?_) rfl (by kernel_rfl) (by kernel_rfl) (by kernel_rfl) (fun _ _ _ h => h) (Or.inl ⟨by rfl, ?_⟩) (by assumption) ?_
        rotate_left
        focus ((intro w hSw; (try dsimp only at hSw); go_simp) <;> (try with_reducible rfl))
        try simp only [Act.put, List.setIfInBounds_toArray, List.set_cons_zero, List.set_cons_succ]
        refine wpAnyH_take (i := 6) (oi := { dst := some 77, op := Op.move (Operand.tmp 9), type := 9, pos := "verify.go:41", after := #[], guard := none }) (v := ?_) rfl (by kernel_rfl) (by kernel_rfl) (by kernel_rfl) (fun _ _ _ h => h) (Or.inl ⟨by rfl, ?_⟩) (by assumption) ?_
        rotate_left
        focus ((intro w hSw; (try dsimp only at hSw); go_simp) <;> (try with_reducible rfl))
        try simp only [Act.put, List.setIfInBounds_toArray, List.set_cons_zero, List.set_cons_succ]
        refine wpAnyH_ready (rs := [7]) (by kernel_rfl) (by simp) ?_
        refine AllReadyH.cons (o := { dst := some 78, op := Op.call { callee := Callee.value (Operand.func 37), args := #[Operand.tmp 76, Operand.tmp 77], argTypes := #[57, 9] }, type := 57, pos := "verify.go:41", after := #[{ on := 5, ground := Ground.data }, { on := 6, ground := Ground.data }], guard := none }) rfl (fun KQ hKQ => ?_) AllReadyH.nil
        go_simp
        refine (HCH.out _).mono ?_
        rintro e w7 ⟨a', c', rfl, hs, hb⟩
        have HS := Lib.hid hs
        have HB7 := Lib.hid hb
        have HM7 := Lib.hid (HMd.out.below hb)
        clear hs hb
        have kM : w7.cell? ⟨l1.M, 27, none⟩ = some (.slice (some ⟨l2.H, 0, none⟩) n n) := (HB7.out.cell (p := ⟨l1.M, 27, none⟩) (by rw [← HMM.out]; exact HMd.out.m.hi)).trans mH
        obtain ⟨hc1, hc2⟩ := hC_at l2.hs (begK scr n (begF n lst) (Des.newD scr.length) k).h k (by rw [hHl]; exact hlt)
        have g0 := HM7.out.h.cell (k * 2) _ hc1
        have g1 := HM7.out.h.cell (k * 2 + 1) _ hc2
        generalize (l2.hs.getD k Sl.nil).a = ga at g0
        generalize ((begK scr n (begF n lst) (Des.newD scr.length) k).h.getD k ([], 0)).fst.length = gl at g0
        generalize (l2.hs.getD k Sl.nil).c = gc at g0
        generalize ((begK scr n (begF n lst) (Des.newD scr.length) k).h.getD k ([], 0)).snd = gq at g1
        have g2 := HM7.out.h.free (k * 2) (by rw [hC_len, hHl]; omega)
        have g3 := HM7.out.h.free (k * 2 + 1) (by rw [hC_len, hHl]; omega)
        have g4 := HM7.out.h.hi
        clear hc1 hc2
        refine hKQ.out _ _ (by (try dsimp only); go_keep) (fun hHeld => ?_)
        clear hKQ KQ
        try simp only [Act.put, List.setIfInBounds_toArray, List.set_cons_zero, List.set_cons_succ]
        refine wpAnyH_take (i := 8) (oi := { dst := some 79, op := Op.indexAddr 50 (Operand.tmp 74) (Operand.tmp 75), type := 0, pos := "verify.go:41", after := #[{ on := 3, ground := Ground.data }, { on := 4, ground := Ground.data }, { on := 0, ground := Ground.phase }, { on := 1, ground := Ground.phase }, { on := 2, ground := Ground.phase }, { on := 3, ground := Ground.phase }, { on := 4, ground := Ground.phase }, { on := 5, ground := Ground.phase }, { on := 6, ground := Ground.phase }, { on := 7, ground := Ground.phase }], guard := none }) (v := ?_) rfl (by kernel_rfl) (by kernel_rfl) (by kernel_rfl) (fun _ _ _ h => h) (Or.inl ⟨by rfl, ?_⟩) (by assumption) ?_
        rotate_left
        focus ((intro w hSw; (try dsimp only at hSw); go_simp) <;> (try with_reducible rfl))
        try simp only [Act.put, List.setIfInBounds_toArray, List.set_cons_zero, List.set_cons_succ]
        refine wpAnyH_ready (rs := [9]) (by kernel_rfl) (by simp) ?_
        refine AllReadyH.cons (o := { dst := none, op := Op.store 57 (Operand.tmp 79) (Operand.tmp 78), type := 0, pos := "verify.go:41", after := #[{ on := 8, ground := Ground.data }, { on := 7, ground := Ground.data }, { on := 7, ground := Ground.chain }, { on := 0, ground := Ground.phase }, { on := 1, ground := Ground.phase }, { on := 2, ground := Ground.phase }, { on := 3, ground := Ground.phase }, { on := 4, ground := Ground.phase }, { on := 5, ground := Ground.phase }, { on := 6, ground := Ground.phase }, { on := 7, ground := Ground.phase }], guard := none }) rfl (fun KQ hKQ => ?_) AllReadyH.nil
        go_simp
        refine hKQ.out _ _ (by (try dsimp only); go_keep) (fun hHeld => ?_)
        clear hKQ KQ
        try simp only [Act.put, List.setIfInBounds_toArray, List.set_cons_zero, List.set_cons_succ]
        refine wpAnyH_done (by kernel_rfl) ?_ _
        have hput := HM7.out.putH k (by rw [hHl]; exact hlt) a' c' [sk] 0 (Con.StrRow.mono HS.out (Nat.zero_le _)) (fun q hq hm => by
          rcases HS.out with ⟨h2, _⟩ | ⟨g, h2, h3, _⟩
          · rw [h2] at hq; cases hq
          · rw [h2] at hq; cases hq
            have h1 : g < wr.drew.heap.size := HMd.out.hix _ hm
            have h5 : wr.drew.heap.size ≤ g := h3
            omega)
        have HPUT : Hid (Mm W.heap.size ((w7.setCell ⟨l2.H, k * 2, none⟩ (.slice a' 1 c')).setCell ⟨l2.H, k * 2 + 1, none⟩ (.int .i64 0)) { l2 with hs := l2.hs.set k ⟨a', c'⟩ } (begK scr n (begF n lst) (Des.newD scr.length) (k + 1))) := Lib.hid (by rw [← HSK.out]; exact hput)
        have hlH : W.heap.size ≤ l2.H := HM7.out.lo _ (mvs l2).2.2.2.2.2.1
        have HBB : Hid (Below W.heap.size W ((w7.setCell ⟨l2.H, k * 2, none⟩ (.slice a' 1 c')).setCell ⟨l2.H, k * 2 + 1, none⟩ (.int .i64 0))) := Lib.hid (((HBd.out.trans (HB7.out.mono HBd.out.size)).setCell (p := ⟨l2.H, k * 2, none⟩) hlH _).setCell (p := ⟨l2.H, k * 2 + 1, none⟩) hlH _)
        clear hput
        go_wp2_with fail
        go_roundw
        case rel => exact ⟨k + 1, { l2 with hs := l2.hs.set k ⟨a', c'⟩ }, by omega, by go_num, HL2, HPUT, HBB⟩
        case measure => simp [intOf]; omega
      · have hkn : k = n := by omega
        subst hkn
        go_wp2_with fail
        exact bodyPost_ret (v := .tuple #[.pointer (some ⟨l1.M, 0, none⟩), .int .i64 0]) (by simp [results, Tryz.results23, go_sem]) rfl ⟨l2, by rw [HL2.out.1], HL2.out.2.2.1, HL2.out.2.2.2, HMr.out, HBr.out⟩

end Go.Proofs.YtimhaidiclbnhaaGreat.Ver
