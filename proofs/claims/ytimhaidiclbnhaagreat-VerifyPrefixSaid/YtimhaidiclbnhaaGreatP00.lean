import Derived.WalkKit
import Derived.ProofKit
import Derived.OpenShut
import Derived.WalkSmall
import Derived.WalkLawsBesides
import Derived.WalkSpells
import Derived.Lib.Hide
import Derived.StillTailTactics
import Derived.Deep.QuietTactic
import Derived.BigQuiet
import Derived.Deep.RegionWith
import Derived.Deep.RegionHeld3
import Derived.Deep.DeepCutAuto
import Derived.Deep.OwnRows
import Derived.LoopTactic
import Derived.Deep.MidRow
import Derived.Deep.Cut
import Derived.Laws.CopyOwn
import Derived.Laws.AppendOwnNone
import Derived.Shelf.SlicesE.Clone
import Derived.Ground.SlgnProg
import Derived.Lib.AppendZeros
import Derived.Deep.RegionLaw
import Derived.Laws.CopyRow
import Derived.Laws.Tables
import Derived.Shelf.Spec.SlicesInsertGrow
import Derived.Shelf.Strings.Builder1
import Derived.Shelf.Strings.Builder2
import Derived.Shelf.Strings.BuilderF
import Derived.Shelf.Strings.BuilderK
import Derived.Shelf.Strings.Builder2Cap
import Derived.Shelf.Strings.Prefix
import Derived.Shelf.Bits.Mul64
import Derived.Shelf.Strings.Repeat
import Derived.Shelf.Slices.Turned
import Derived.Ground.Names2Prog
import Derived.Shelf.Slices.Clone
import Derived.Laws.EntriesVeiled
import Derived.Carry
import Derived.Maps.Keyed
import Derived.Orders
import Derived.Tactics
import Derived.Laws.OwnMore
import Derived.Deep.CutRange
import Derived.Lib.SlBuf
import Derived.Deep.AppendLies
import Derived.Test.YtimhaidiclbnhaaGreatRows
set_option linter.unusedSimpArgs false
set_option linter.unusedVariables false
namespace Go.Proofs.YtimhaidiclbnhaaGreat
open Go.ChangeShapes Go.WideShapes Go.ChangeAt Go.RowKit
section
variable {P:Program} {ops:Array Oper} {Q:Exit→Act→World→Prop} {md:Region.Mode} {S:World→Prop} {fuel:Nat} {li:Array Bool} {a a2:Act} {w:World} {v:Value}
theorem tk (i:Nat) {o o0:Oper} (h:wpAnyH P md ops Q S fuel (li.setIfInBounds i true) a2 w) (hi:ops[i]? =some o0:=by rfl) (ho:o0=o:=by (simp only [List.getElem_toArray,List.getElem_cons_succ,List.getElem_cons_zero];exact rfl)) (hs:Region.noSelect ops=true:=by kernel_rfl) (hf:Region.free md ops li i=true:=by kernel_rfl) (hr:(Region.ready md ops li).contains i=true:=by kernel_rfl)
    (hQ:∀c a w,Q (.panic c) (a.put o.dst v) w→Q (.panic c) a w:=by exact fun _ _ _ h=>h) (hw:Region.wanted o (yielded ops a.tmps)=true:=by rfl) (hy:∀w,S w→(execOp a.eval o).run P w=.ok (.value v) w:=by ((intro w hSw;(try dsimp only at hSw);go_simp)<;>(try with_reducible rfl)))
    (h2:a.put o.dst v=a2:=by ((try simp only [Act.put,List.setIfInBounds_toArray,List.set_cons_zero,List.set_cons_succ]);exact rfl)) (hS:S w:=by assumption):wpAnyH P md ops Q S (fuel+1) li a w:=
  wpAnyH_take (ho▸hi) hs hf hr hQ (Or.inl ⟨hw,hy⟩) hS (h2▸h)
theorem tn (i:Nat) {o o0:Oper} (h:wpAnyH P md ops Q S fuel (li.setIfInBounds i true) a2 w) (hi:ops[i]? =some o0:=by rfl) (ho:o0=o:=by (simp only [List.getElem_toArray,List.getElem_cons_succ,List.getElem_cons_zero];exact rfl)) (hs:Region.noSelect ops=true:=by kernel_rfl) (hf:Region.free md ops li i=true:=by kernel_rfl) (hr:(Region.ready md ops li).contains i=true:=by kernel_rfl)
    (hQ:∀c a w,Q (.panic c) (a.put o.dst undef) w→Q (.panic c) a w:=by exact fun _ _ _ h=>h) (hw:Region.wanted o (yielded ops a.tmps)=false:=by rfl)
    (h2:a.put o.dst undef=a2:=by ((try simp only [Act.put,List.setIfInBounds_toArray,List.set_cons_zero,List.set_cons_succ]);exact rfl)) (hS:S w:=by assumption):wpAnyH P md ops Q S (fuel+1) li a w:=
  wpAnyH_take (ho▸hi) hs hf hr hQ (Or.inr ⟨hw,rfl⟩) hS (h2▸h)
end
end Go.Proofs.YtimhaidiclbnhaaGreat
namespace Go.Proofs.YtimhaidiclbnhaaGreat
open Go
structure Mz where
structure Ms where
structure Mn where
inductive Ma where
 |mk (b o:Nat)
abbrev U:=Value
def I:Mz:=⟨⟩
def J:Ms:=⟨⟩
def σ:Mn:=⟨⟩
instance:Coe Int Value:=⟨fun n=>.int .i64 n⟩
instance:Coe Nat Value:=⟨fun n=>.int .i64 (n:Int)⟩
instance:Coe Mz Value:=⟨fun _=>.int .i64 0⟩
instance:Coe Ms Value:=⟨fun _=>.string ⟨#[]⟩⟩
instance:Coe Mn Value:=⟨fun _=>.slice none 0 0⟩
instance:CoeFun Nat (fun _=>Nat→Ma):=⟨fun b o=>.mk b o⟩
instance:Coe World Nat:=⟨fun w=>w.heap.size⟩
inductive Mw where
 |mk (w:World) (k o:Nat)
instance:CoeFun World (fun _=>Nat→Nat→Mw):=⟨fun w k o=>.mk w k o⟩
instance (w:World) (k o:Nat):CoeDep Mw (.mk w k o) Addr:=⟨⟨w.heap.size+k,o,none⟩⟩
instance (w:World) (o:Nat):CoeDep Mw (.mk w 0 o) Addr:=⟨⟨w.heap.size,o,none⟩⟩
instance (b o:Nat):CoeDep Ma (.mk b o) Addr:=⟨⟨b,o,none⟩⟩
end Go.Proofs.YtimhaidiclbnhaaGreat
namespace Go.Proofs.YtimhaidiclbnhaaGreat
open Go.ChangeShapes Go.WideShapes Go.ChangeAt Go.RowKit
theorem Hd {p:Prop} (h:p):Hid p:=h
theorem Nr {n:Nat}:n≤n:=Nat.le_refl n
theorem Br {B:Nat} {w:World}:Below B w w:=Below.refl B w
theorem b11 {p:Prop} (h:p:=by simp):p:=h
theorem b10 {p:Prop} (h:p:=by omega):p:=h
theorem b14 {p:Prop} (h:p:=by decide):p:=h
theorem b27 {p:Prop} (h:p:=by simp [mC]):p:=h
theorem b12 {p:Prop} (h:p:=by kernel_rfl):p:=h
theorem b39 {p:Prop} (h:p:=by assumption):p:=h
theorem b16 {p:Prop} (h:p:=by simp;omega):p:=h
theorem b50 {p:Prop} (h:p:=by rw [hv];rfl):p:=h
theorem b35 {p:Prop} (h:p:=by simpa using h):p:=h
theorem b40 {p:Prop} (h:p:=by rw [hc];simp):p:=h
theorem b36 {p:Prop} (h:p:=by rw [HOD2.out]):p:=h
theorem b42 {p:Prop} (h:p:=by simp only;omega):p:=h
theorem b51 {p:Prop} (h:p:=by rw [HR.out];rfl):p:=h
theorem b66 {p:Prop} (h:p:=by rw [pl_t];omega):p:=h
theorem b13 {p:Prop} (h:p:=by rw [HCS.out];rfl):p:=h
theorem b19 {p:Prop} (h:p:=by rw [HOS.out];rfl):p:=h
theorem b47 {p:Prop} (h:p:=by dsimp only;omega):p:=h
theorem b75 {p:Prop} (h:p:=by exact HKN.out.2.2):p:=h
theorem b25 {p:Prop} (h:p:=by rw [HS0.out];simp):p:=h
theorem b18 {p:Prop} (h:p:=by rw [←HFI.out];rfl):p:=h
theorem b57 {p:Prop} (h:p:=by rw [Des.alloc_size]):p:=h
theorem b17 {p:Prop} (h:p:=by unfold maxLen;omega):p:=h
theorem b24 {p:Prop} (h:p:=by rw [HV.out];try rfl):p:=h
theorem b54 {p:Prop} (h:p:=by rw [HE2.out];decide):p:=h
theorem b21 {p:Prop} (h:p:=by rw [HOE2.out];decide):p:=h
theorem b29 {p:Prop} (h:p:=by simp [Value.oneCell']):p:=h
theorem b55 {p:Prop} (h:p:=by first|rfl|trivial):p:=h
theorem b91 {p:Prop} (h:p:=by have:=HN.out;omega):p:=h
theorem b43 {p:Prop} (h:p:=by have:=HKN.out;omega):p:=h
theorem b52 {p:Prop} (h:p:=by have:=HR1.out;omega):p:=h
theorem b71 {p:Prop} (h:p:=by intro e;cases e;omega):p:=h
theorem b30 {p:Prop} (h:p:=by simp [Act.eval,Act.put]):p:=h
theorem b61 {p:Prop} (h:p:=by have:=HOK.out.h;omega):p:=h
theorem b77 {p:Prop} (h:p:=by rw [Con.badB_iff];omega):p:=h
theorem b83 {p:Prop} (h:p:=by rw [HOE2.out];exact hne):p:=h
theorem b15 {p:Prop} (h:p:=by (try dsimp only);go_keep):p:=h
theorem b63 {p:Prop} (h:p:=by first|assumption|simp):p:=h
theorem b37 {p:Prop} (h:p:=by rw [Des.alloc_size];omega):p:=h
theorem b28 {p:Prop} (h:p:=by rw [HCS.out];exact size122):p:=h
theorem b26 {p:Prop} (h:p:=by rw [HCS.out,←HKD.out];rfl):p:=h
theorem b34 {p:Prop} (h:p:=by rw [HCS.out,←HOF.out];rfl):p:=h
theorem b41 {p:Prop} (h:p:=by rw [HOD2.out];exact HPL.out):p:=h
theorem b78 {p:Prop} (h:p:=by (try dsimp only);assumption):p:=h
theorem b95 {p:Prop} (h:p:=by show W0.heap.size< _;omega):p:=h
theorem b20 {p:Prop} (h:p:=by intro e;first|rfl|cases e):p:=h
theorem b69 {p:Prop} (h:p:=by intro e;cases e;exact hne rfl):p:=h
theorem b70 {p:Prop} (h:p:=by have:=HPB.out.hi;simp;omega):p:=h
theorem b93 {p:Prop} (h:p:=by show w.heap.size+1<B;omega):p:=h
theorem b48 {p:Prop} (h:p:=by have:=HB.out.size;simp;omega):p:=h
theorem b96 {p:Prop} (h:p:=by have:=HK.out.cH;simpa using this):p:=h
theorem b58 {p:Prop} (h:p:=by simp [results,Tryz.results24,go_sem]):p:=h
theorem b62 {p:Prop} (h:p:=by simp [results,Tryz.results25,go_sem]):p:=h
theorem b117 {p:Prop} (h:p:=by simp [results,Tryz.results31,go_sem]):p:=h
theorem b33 {p:Prop} (h:p:=by rw [←HCS.out];exact hf2.at HP.t HP.lo):p:=h
theorem b92 {p:Prop} (h:p:=by simp only [Nat.min_def];split<;>omega):p:=h
theorem b98 {p:Prop} (h:p:=by have:=HN.out.lo;have:=HR1.out;omega):p:=h
theorem b97 {p:Prop} (h:p:=by rw [hC_len];show _<s.h.length*2;omega):p:=h
theorem b72 {p:Prop} (h:p:=by have:=HKN.out;show W.heap.size≤K;omega):p:=h
theorem b73 {p:Prop} (h:p:=by have:=HKN.out;show W.heap.size≠K;omega):p:=h
theorem b118 {p:Prop} (h:p:=by rw [←HN3.out];exact Des.ints_at S.fin p hnl):p:=h
theorem b56 {p:Prop} (h:p:=by simp [results,Tryz.results32,go_sem,e0,e1]):p:=h
theorem b67 {p:Prop} (h:p:=by simp [results,Tryz.results87,go_sem,e0,e1]):p:=h
theorem b68 {p:Prop} (h:p:=by simp [results,Tryz.results82,go_sem,e0,e1]):p:=h
theorem b84 {p:Prop} (h:p:=by simp [results,Tryz.results89,go_sem,e0,e1]):p:=h
theorem b87 {p:Prop} (h:p:=by simp [results,Tryz.results56,go_sem,e0,e1]):p:=h
theorem b90 {p:Prop} (h:p:=by simp [results,Tryz.results98,go_sem,e0,e1]):p:=h
theorem b104 {p:Prop} (h:p:=by simp [results,Tryz.results63,go_sem,e0,e1]):p:=h
theorem b103 {p:Prop} (h:p:=by simp [results,Tryz.results113,go_sem,e0,e1]):p:=h
theorem b74 {p:Prop} (h:p:=by have:=HKN.out;show W.heap.size+1≠K;omega):p:=h
theorem b22 {p:Prop} (h:p:=by simp [results,Tryz.results35,go_sem,q0,q1,q2]):p:=h
theorem b46 {p:Prop} (h:p:=by simp [results,Tryz.results34,go_sem,q0,q1,q2]):p:=h
theorem b49 {p:Prop} (h:p:=by simp [results,Tryz.results22,go_sem,q0,q1,q2]):p:=h
theorem b106 {p:Prop} (h:p:=by rw [←HVV0.out];exact Des.ints_at s.fa f b10):p:=h
theorem b115 {p:Prop} (h:p:=by show k<(stAt s k).length;rw [stAt_len];exact hks):p:=h
theorem b116 {p:Prop} (h:p:=by have:=HRM.out.cN;rw [HSL.out] at this;exact this):p:=h
theorem b60 {p:Prop} (h:p:=by simp [results,Tryz.results73,go_sem,q0,q1,q2,q3]):p:=h
theorem b76 {p:Prop} (h:p:=by simp [results,Tryz.results76,go_sem,q0,q1,q2,q3]):p:=h
theorem b100 {p:Prop} (h:p:=by simp [results,Tryz.results68,go_sem,q0,q1,q2,q3]):p:=h
theorem b105 {p:Prop} (h:p:=by simp [results,Tryz.results65,go_sem,q0,q1,q2,q3]):p:=h
theorem b107 {p:Prop} (h:p:=by simp [results,Tryz.results69,go_sem,q0,q1,q2,q3]):p:=h
theorem b108 {p:Prop} (h:p:=by simp [results,Tryz.results70,go_sem,q0,q1,q2,q3]):p:=h
theorem b109 {p:Prop} (h:p:=by simp [results,Tryz.results71,go_sem,q0,q1,q2,q3]):p:=h
theorem b110 {p:Prop} (h:p:=by simp [results,Tryz.results67,go_sem,q0,q1,q2,q3]):p:=h
theorem b111 {p:Prop} (h:p:=by simp [results,Tryz.results75,go_sem,q0,q1,q2,q3]):p:=h
theorem b31 {p:Prop} (h:p:=by show (tset y.t k j _).map Tb.l=_;rw [tset_pl,HPT.out]):p:=h
theorem b113 {p:Prop} (h:p:=by have:=HOK.out.hl f b61;omega):p:=h
theorem b81 {p:Prop} (h:p:=by simp [results,Tryz.results43,go_sem,d0,d1,d2,d3,d4]):p:=h
theorem b94 {p:Prop} (h:p:=by simp [results,Tryz.results91,go_sem,q0,q1,q2,q3,q4]):p:=h
theorem b136 {p:Prop} (h:p:=by rw [←hw9];exact (((HQ8.out.set 0 _).set 1 _).set 2 _).set 3 _):p:=h
theorem b134 {p:Prop} (h:p:=by rw [slC_len];show k<(stAt s k).length;rw [stAt_len];exact hks):p:=h
theorem b86 {p:Prop} (h:p:=by show 0<(y.t.getD k Tb.nil).l.length;rw [HYTT.out,Q3.out];omega):p:=h
theorem b38 {p:Prop} (h:p:=by show W1.heap.size<(W1.alloc _).heap.size;rw [Des.alloc_size];omega):p:=h
theorem b99 {p:Prop} (h:p:=by show W2.heap.size<(W2.alloc _).heap.size;rw [Des.alloc_size];omega):p:=h
theorem b125 {p:Prop} (h:p:=by show W1.heap.size≤(W1.alloc _).heap.size;rw [Des.alloc_size];omega):p:=h
theorem b126 {p:Prop} (h:p:=by show W2.heap.size≤(W2.alloc _).heap.size;rw [Des.alloc_size];omega):p:=h
theorem b138 {p:Prop} (h:p:=by rw [fnd_snoc,List.length_append,List.length_singleton];exact HOW7.out):p:=h
theorem b143 {p:Prop} (h:p:=by rcases HAT.out with h1|h1;exact Or.inl h1;exact Or.inr (by rw [h1];simp)):p:=h
theorem b128 {p:Prop} (h:p:=by first|(have:=HR2.out;omega)|(have:=HO.out.lo;have:=HR2.out;omega)):p:=h
theorem b127 {p:Prop} (h:p:=by rw [List.getD_eq_getElem?_getD,List.getElem?_eq_getElem hiR];exact List.getElem_mem hiR):p:=h
theorem b141 {p:Prop} (h:p:=by rw [List.getD_eq_getElem?_getD,List.getElem?_eq_getElem hlt];exact List.getElem_mem hlt):p:=h
theorem b32 {p:Prop} (h:p:=by first|exact HX.out.bel|exact (HX.out.below (Br.alloc Nr _)).bel):p:=h
theorem b45 {p:Prop} (h:p:=by (try dsimp only);(first|exact ⟨cc0,cc1,cc2,cc3,cc4,dd0,dd1,dd2,dd3,dd4⟩|go_keep)):p:=h
theorem b123 {p:Prop} (h:p:=by first|exact H0.out|exact H0.out.below (Br.alloc Nr _) H0.out.lt):p:=h
theorem b65 {p:Prop} (h:p:=by rw [HOD2.out];exact De.ext' rfl b31):p:=h
theorem b85 {p:Prop} (h:p:=by rw [HOD2.out];exact De.ext' HFIN.out.symm b31):p:=h
theorem b114 {p:Prop} (h:p:=by (try rw [HZ9.out]);rw [←hwB];exact HL.out.fin ⟨2,0,⟨#[]⟩⟩ rfl HEX.out b20):p:=h
theorem b129 {p:Prop} (h:p:=by (try rw [HZ9.out]);rw [←hwB];exact HL.out.fin ⟨0,0,⟨#[]⟩⟩ rfl HEX.out b20):p:=h
theorem b142 {p:Prop} (h:p:=by (try rw [HZ9.out]);rw [←hwB];exact HL.out.fin ⟨4,0,⟨#[]⟩⟩ rfl HEX.out b20):p:=h
theorem b112 {p:Prop} (h:p:=by (try rw [HZ9.out]);rw [←hwB];exact HL3.out.fin ⟨0,0,⟨#[]⟩⟩ rfl HEX.out b20):p:=h
theorem b132 {p:Prop} (h:p:=by (try rw [HZ9.out]);rw [←hwB];exact HL.out.fin ⟨ue,0,⟨#[]⟩⟩ rfl HEX.out b20):p:=h
theorem b130 {p:Prop} (h:p:=by (try rw [HZ9.out]);rw [←hwB];exact HL.out.fin ⟨0,uf,⟨#[]⟩⟩ rfl HEX.out b20):p:=h
theorem b133 {p:Prop} (h:p:=by (try rw [HZ9.out]);rw [←hwB];exact HL.out.fin ⟨13,0,⟨#[]⟩⟩ rfl HEX.out b20):p:=h
theorem b131 {p:Prop} (h:p:=by (try rw [HZ9.out]);rw [←hwB];exact HL3.out.fin ⟨0,uf,⟨#[]⟩⟩ rfl HEX.out b20):p:=h
theorem b140 {p:Prop} (h:p:=by have e:=HXL.out;rw [List.getD_eq_getElem?_getD,List.getElem?_eq_getElem b10];exact List.getElem_mem b10):p:=h
theorem b124 {p:Prop} (h:p:=by first|exact H1.below hb2 Nr|exact (H1.below (Br.alloc Nr _) H1.lt).below hb2 Nr):p:=h
theorem b137 {p:Prop} (h:p:=by rw [←hw9];exact (((Vk.set _ _ _ _ b11).trans (Vk.set _ _ _ _ b11)).trans (Vk.set _ _ _ _ b11)).trans (Vk.set _ _ _ _ b11)):p:=h
theorem b135 {p:Prop} (h:p:=by rw [←hw9];exact (((HB8'.out.setCell (p:=⟨K2,0,none⟩) Nr _).setCell (p:=⟨K2,1,none⟩) Nr _).setCell (p:=⟨K2,2,none⟩) Nr _).setCell (p:=⟨K2,3,none⟩) Nr _):p:=h
theorem b139 {p:Prop} (h:p:=by rcases u7 with _ | _ | _ | _ | _ | _ | _ |u7;exact ⟨_,hL.cell 0 _ rfl⟩;exact ⟨_,hL.cell 1 _ rfl⟩;exact ⟨_,hL.cell 2 _ rfl⟩;exact ⟨_,hL.cell 3 _ rfl⟩;exact ⟨_,hL.cell 4 _ rfl⟩;exact ⟨_,hL.cell 5 _ rfl⟩;exact ⟨_,hL.cell 6 _ rfl⟩;omega):p:=h
theorem b23 {p:Prop} (h:p:=by first|omega|(have:=HKN.out;omega)|(have:=HO.out.lo;have:=HKh.out;have:=HKN.out;omega)|(have:=HO.out.lo;have:=HR1.out;omega)|(have:=HN.out.lo;have:=HR1.out;omega)|(have:=HKN.out;have:=HKh.out;omega)|(have:=HOl.out;have:=HKh.out;have:=HKN.out;omega)|(have:=HKN.out;have:=HR1.out;omega)|(have:=HOl.out;omega)|(have:=HN.out.lo;have:=HOl.out;have:=HR1.out;omega)|(have:=HKh.out;have:=HOl.out;have:=HR1.out;omega)):p:=h
end Go.Proofs.YtimhaidiclbnhaaGreat
namespace Go.Proofs.YtimhaidiclbnhaaGreat
theorem cl0 {p : Prop} (h:p:=by
 have HX0:=HX;replace HX:=Hd (HX.out.below Br.drew);have hT:W.heap.size<W1.heap.size:=HX0.out.t.hi;have hM:l.M<W1.heap.size:=(HM.out.below HX0.out.bel).g.m.hi;have e1:¬W1.heap.size=W.heap.size:=b10;have e2:¬W.heap.size=W1.heap.size:=b10;have e3:¬W1.heap.size=l.M:=b10;have e4:¬l.M=W1.heap.size:=b10;have yt1:=HX0.out.t.cell 1 (.int .i64 o.fd) b13;have ymO:W1.cell? ⟨l.M,21,none⟩=some (.slice l.x.oa l.x.o.length l.x.oc):=(HM.out.below HX0.out.bel).cO.1;have ymP:W1.cell? ⟨l.M,22,none⟩=some (.slice l.x.ta l.x.t.length l.x.tc):=(HM.out.below HX0.out.bel).cO.2;have t1:=HX.out.t.cell 1 (.int .i64 o.fd) b13;have mO:W1.drew.cell? ⟨l.M,21,none⟩=some (.slice l.x.oa l.x.o.length l.x.oc):=(HM.out.below HX.out.bel).cO.1;have mP:W1.drew.cell? ⟨l.M,22,none⟩=some (.slice l.x.ta l.x.t.length l.x.tc):=(HM.out.below HX.out.bel).cO.2;go_region_held3 (fun w'=>w'.cell? ⟨W.heap.size,1,none⟩=some (.int .i64 o.fd)∧w'.cell? ⟨l.M,21,none⟩=some (.slice l.x.oa l.x.o.length l.x.oc)∧w'.cell? ⟨l.M,22,none⟩=some (.slice l.x.ta l.x.t.length l.x.tc)) (go_keep) (first|(go_at_call 43;refine (HLK.out _ b32).mono ?_;rintro e w2 ⟨rfl,hb⟩;(first|(have HA:=Hd hb;replace HX:=Hd (HX.out.below hb))|(have HB:=Hd hb;obtain ⟨_,⟨f0,f1,f2,f3,f4⟩,fh⟩:=Des.At.five (((At.new W1 [.int .i64 0,.int .i64 0,.int .i64 0,.int .i64 0,.int .i64 0] 126).drew).below hb b38);replace HX:=Hd ((HX.out.below (Br.alloc Nr _)).below hb)));clear hb t1 mO mP;have t1:=HX.out.t.cell 1 (.int .i64 o.fd) b13;have mO:w2.cell? ⟨l.M,21,none⟩=some (.slice l.x.oa l.x.o.length l.x.oc):=(HM.out.below HX.out.bel).cO.1;have mP:w2.cell? ⟨l.M,22,none⟩=some (.slice l.x.ta l.x.t.length l.x.tc):=(HM.out.below HX.out.bel).cO.2))
 all_goals
  go_wp2_with fail;go_meet;first|exact ⟨_,rfl,rfl,rfl,Hd (Nb.after ((Below.refl W1.heap.size W1).drew.trans HA.out) [.int .i64 D.fi,.int .i64 D.fl,.int .i64 D.f,.int .i64 D.cu,.int .i64 D.rf] 126)⟩|exact ⟨_,rfl,rfl,rfl,Hd (Nb.before (T:=126) (zs:=[.int .i64 0,.int .i64 0,.int .i64 0,.int .i64 0,.int .i64 0]) ((Below.refl (W1.alloc _).heap.size (W1.alloc _)).drew.trans HB.out) [.int .i64 D.fi,.int .i64 D.fl,.int .i64 D.f,.int .i64 D.cu,.int .i64 D.rf] rfl)⟩):p:=h
theorem cl1 {p : Prop} (h:p:=by
 intro w9 hw9;have HR9:=Hd (store_at HZ.out hw9 rfl);have HB9:Hid (Below w.heap.size _ w9):=Hd (by rw [hw9];exact Des.below_cells Nr _ 0 Br);replace HT:=Hd (HT.out.below HB9.out htR);replace HK:=Hd (tock_put HK.out HB9.out Nr);clear hw9 HB9 HZ;go_wp2_with fail;refine bodyPost_ret (v:=_) (Des.results_cell _ _ _ rfl w9 _ _ rfl _ HR9.out.r Tryz.underlying66 rfl size66') rfl ⟨⟨_,_,_,_,_,_,_,_,_⟩,rfl,?_,HT.out,HK.out⟩;dsimp only;refine ⟨?_,?_,?_,?_⟩<;>first|omega|decide|(simp;done)):p:=h
theorem cl2 {p : Prop} (h:p:=by
 have hz':(le==0)=false:=by simpa using hz
 obtain rfl:PR=_:=HE.out.trans (if_pos hz);clear HE;have HZ9:Hid (Z=s):=Hd (HZ.out.trans b11);clear HZ;obtain ⟨⟨rc0,rc1,rc2⟩,⟨r0,r1,r2⟩,rh⟩:=At.three HL.out.r;go_wp2_with fail;change bodyPost _ _ _ _ _ (((wc.setCell ⟨W.heap.size+1,0,none⟩ (.int .i64 4)).setCell ⟨W.heap.size+1,1,none⟩ (.int .i64 0)).setCell ⟨W.heap.size+1,2,none⟩ (.string ⟨#[]⟩));generalize hwB:((wc.setCell ⟨W.heap.size+1,0,none⟩ (.int .i64 4)).setCell ⟨W.heap.size+1,1,none⟩ (.int .i64 0)).setCell ⟨W.heap.size+1,2,none⟩ (.string ⟨#[]⟩)=w9 at *;have HQ:Hid (At w9 (W.heap.size+1) [.int .i64 4,.int .i64 0,.string ⟨#[]⟩]):=by rw [←hwB];exact Hd (HL.out.finA ⟨4,0,⟨#[]⟩⟩ rfl)
 clear rc0 rc1 rc2 r0 r1 r2 rh;obtain ⟨⟨q0,q1,q2⟩,_,_⟩:=At.three HQ.out;exact bodyPost_ret (v:=.agg #[.int .i64 4,.int .i64 0,.string ⟨#[]⟩]) b22 rfl b142):p:=h
theorem cl3 {p : Prop} (h:p:=by
 obtain ⟨⟨rc0,rc1,rc2⟩,⟨r0,r1,r2⟩,rh⟩:=At.three HL.out.r;go_wp2_with fail;change bodyPost _ _ _ _ _ (((wc.setCell ⟨W.heap.size+1,0,none⟩ (.int .i64 2)).setCell ⟨W.heap.size+1,1,none⟩ (.int .i64 0)).setCell ⟨W.heap.size+1,2,none⟩ (.string ⟨#[]⟩));generalize hwB:((wc.setCell ⟨W.heap.size+1,0,none⟩ (.int .i64 2)).setCell ⟨W.heap.size+1,1,none⟩ (.int .i64 0)).setCell ⟨W.heap.size+1,2,none⟩ (.string ⟨#[]⟩)=w9 at *;have HQ:Hid (At w9 (W.heap.size+1) [.int .i64 2,.int .i64 0,.string ⟨#[]⟩]):=by rw [←hwB];exact Hd (HL.out.finA ⟨2,0,⟨#[]⟩⟩ rfl)
 clear rc0 rc1 rc2 r0 r1 r2 rh;obtain ⟨⟨q0,q1,q2⟩,_,_⟩:=At.three HQ.out;exact bodyPost_ret (v:=.agg #[.int .i64 2,.int .i64 0,.string ⟨#[]⟩]) b22 rfl b114):p:=h
theorem cl5 {p : Prop} (h:p:=by
 obtain ⟨⟨rc0,rc1,rc2⟩,⟨r0,r1,r2⟩,rh⟩:=At.three HL.out.r;go_wp2_with fail;change bodyPost _ _ _ _ _ (((wc.setCell ⟨W.heap.size+1,0,none⟩ (.int .i64 13)).setCell ⟨W.heap.size+1,1,none⟩ (.int .i64 0)).setCell ⟨W.heap.size+1,2,none⟩ (.string ⟨#[]⟩));generalize hwB:((wc.setCell ⟨W.heap.size+1,0,none⟩ (.int .i64 13)).setCell ⟨W.heap.size+1,1,none⟩ (.int .i64 0)).setCell ⟨W.heap.size+1,2,none⟩ (.string ⟨#[]⟩)=w9 at *;have HQ:Hid (At w9 (W.heap.size+1) [.int .i64 13,.int .i64 0,.string ⟨#[]⟩]):=by rw [←hwB];exact Hd (HL.out.finA ⟨13,0,⟨#[]⟩⟩ rfl)
 clear rc0 rc1 rc2 r0 r1 r2 rh;obtain ⟨⟨q0,q1,q2⟩,_,_⟩:=At.three HQ.out;exact bodyPost_ret (v:=.agg #[.int .i64 13,.int .i64 0,.string ⟨#[]⟩]) b22 rfl b133):p:=h
theorem cl103 {p : Prop} (h:p:=by
 go_simp;refine hKQ.out _ _ b15 (fun hHeld=>?_);clear hKQ KQ;try go_frame
 refine wpAnyH_ready (rs:=[16]) b12 b11 ?_;refine AllReadyH.cons (o:=⟨some 143,.call {callee:=.builtin .append,args:=#[.tmp 134,.tmp 142],argTypes:=#[22,22]},22,_,#[⟨7,.data⟩,⟨15,.data⟩],none⟩) rfl (fun KQ hKQ=>?_) AllReadyH.nil;refine step_append_lies _ (by rfl) _ _ _ (by rfl) B 3 i0 (.int .i64 0) 1 8 Tryz.underlying22 HI.out HZ.out HZ1.out HZ2.out (by rfl) b10 (.slice a0 row.length c0) row.length (ints row) (by rfl) (Des.ownsRow_below HOW.out (Br.alloc Nr _)) ⟨wr.heap.size,0,none⟩ 1 1 [.int .i64 (hL:Int)] (by rfl) (by rfl) (World.news_of_block (Go.heap_alloc_new _ _)) b29 b10 b17 b10 b16 (wr.heap.size+1) b11 ?_;intro g cap w1 hown1 hgrow hat hlt1;have HGR:=Hd hgrow;have HOW1:=Hd hown1;have HAT:=Hd hat;have k1:w1.cell? ⟨Mb,28,none⟩=some (.slice (some ⟨l4.S,0,none⟩) n q.s):=(hgrow.cell_far ⟨Mb,28,none⟩ b16 hne1).trans (by simp [*]);have k3:w1.cell? ⟨Mb,27,none⟩=some (.slice (some ⟨l4.H,0,none⟩) n q.h):=(hgrow.cell_far ⟨Mb,27,none⟩ b16 hne1).trans (by simp [*]);have k6:w1.cell? ⟨l4.H,j*2,none⟩=some (.slice ha hL hc):=(hgrow.cell_far ⟨l4.H,j*2,none⟩ b16 hne3).trans (by simp [*]);have zS:(wr.alloc (Obj.cells #[.int .i64 (hL:Int)] 3)).cell? ⟨l4.S,j,none⟩=some (.slice a0 row.length c0):=(((Below.refl wr.heap.size wr).alloc Nr _).cell (p:=⟨l4.S,j,none⟩) (by show l4.S<wr.heap.size;omega)).trans ysS;have zf:(wr.alloc (Obj.cells #[.int .i64 (hL:Int)] 3)).frozen? ⟨l4.S,j,none⟩=false:=(((Below.refl wr.heap.size wr).alloc Nr _).frozen (p:=⟨l4.S,j,none⟩) (by show l4.S<wr.heap.size;omega)).trans fS;have k2:w1.cell? ⟨l4.S,j,none⟩=some (.slice a0 row.length c0):=(hgrow.cell_far ⟨l4.S,j,none⟩ b16 hne2).trans zS;have k4:w1.frozen? ⟨l4.S,j,none⟩=false:=(hgrow.frozen_far ⟨l4.S,j,none⟩ b16 hne2).trans zf;have k5:wr.heap.size<w1.heap.size:=by have:=hgrow.size;simp at this;omega
 have k7:l4.S<w1.heap.size:=b10;clear hgrow hown1 hat;refine hKQ.out _ _ b15 (fun hHeld=>?_);clear hKQ KQ;try go_frame
 refine tk 17 ?_;refine wpAnyH_ready (rs:=[18]) b12 b11 ?_;refine AllReadyH.cons (o:=⟨none,.store 22 (.tmp 144) (.tmp 143),0,_,#[⟨17,.data⟩,⟨16,.data⟩,⟨16,.chain⟩,⟨0,.phase⟩,⟨1,.phase⟩,⟨2,.phase⟩,⟨3,.phase⟩,⟨4,.phase⟩,⟨5,.phase⟩,⟨6,.phase⟩,⟨7,.phase⟩,⟨8,.phase⟩,⟨9,.phase⟩,⟨10,.phase⟩,⟨11,.phase⟩,⟨12,.phase⟩,⟨13,.phase⟩,⟨14,.phase⟩,⟨15,.phase⟩,⟨16,.phase⟩],none⟩) rfl (fun KQ hKQ=>?_) AllReadyH.nil;go_simp;refine hKQ.out _ _ b15 (fun hHeld=>?_);clear hKQ KQ;try go_frame
 refine wpAnyH_done b12 ?_ _;obtain ⟨hp1,hp2,hp3,hp4⟩:=HPUT.out _ _ _ _ (((Below.refl wr.heap.size wr).alloc Nr _).drew) HOW1.out HGR.out b143;have HP1:=Hd hp1;have HP2:=Hd hp2;have HP3:=Hd hp3;have HP4:=Hd hp4;clear hp1 hp2 hp3 hp4;go_wp2_with fail;go_roundw
 case rel=>exact ⟨j+1,{l4 with st:=l4.st.set j ⟨some ⟨g,0,none⟩,cap⟩},by omega,by go_num,HP4,HP1,HP2,HP3⟩
 case measure=>simp [intOf];omega):p:=h
theorem cl6 {p : Prop} (h:p:=by
 have HQ:Hid (At w9 (W.heap.size+1) [.int .i64 2,.int .i64 0,.string ⟨#[]⟩]):=by rw [←hwB];exact Hd (HL.out.finA ⟨2,0,⟨#[]⟩⟩ rfl)
 clear rc0 rc1 rc2 r0 r1 r2 rh;obtain ⟨⟨q0,q1,q2⟩,_,_⟩:=At.three HQ.out;exact bodyPost_ret (v:=.agg #[.int .i64 2,.int .i64 0,.string ⟨#[]⟩]) b22 rfl b114):p:=h
theorem cl7 {p : Prop} (h:p:=by
 have mF:wc.cell? ⟨l.M,24,none⟩=some (.slice (some ⟨l.F,0,none⟩) s.fs.length q.f):=HL.out.m.cF;have f0:wc.cell? ⟨l.F,f,none⟩=some (.string sd):=HL.out.m.g.f.cell f (.string sd) HFC.out;go_wp2_with fail;go_quiet (fail);go_wp2_with fail;go_meet;exact ⟨rfl,Hd (HL.out.below (below_drewN Br nq))⟩):p:=h
theorem cl104 {p : Prop} (h:p:=by
 go_simp;refine hKQ.out _ _ b15 (fun hHeld=>?_);clear hKQ KQ;try go_frame
 refine wpAnyH_ready (rs:=[16]) b12 b11 ?_;refine AllReadyH.cons (o:=⟨some 41,.call {callee:=.builtin .append,args:=#[.tmp 36,.tmp 40],argTypes:=#[22,22]},22,_,#[⟨11,.data⟩,⟨15,.data⟩],none⟩) rfl (fun KQ hKQ=>?_) AllReadyH.nil;refine step_append_lies _ (by rfl) _ _ _ (by rfl) B 3 i0 (.int .i64 0) 1 8 Tryz.underlying22 HI.out HZ.out HZ1.out HZ2.out (by rfl) b10 (.slice a0 row.length c0) row.length (ints row) (by rfl) (Des.ownsRow_below HOW.out (Br.alloc Nr _)) ⟨w3.heap.size,0,none⟩ 1 1 [.int .i64 (hL:Int)] (by rfl) (by rfl) (World.news_of_block (Go.heap_alloc_new _ _)) b29 b10 b17 b10 b16 (w3.heap.size+1) b11 ?_;intro g cap w1 hown1 hgrow hat hlt1;have HGR:=Hd hgrow;have HOW1:=Hd hown1;have HAT:=Hd hat;have k1:w1.cell? ⟨l.M,28,none⟩=some (.slice (some ⟨l2.S,0,none⟩) s.fs.length s.fs.length):=(hgrow.cell_far ⟨l.M,28,none⟩ b16 hne1).trans (by simp [*]);have k2:w1.cell? ⟨l2.S,k,none⟩=some (.slice a0 row.length c0):=(hgrow.cell_far ⟨l2.S,k,none⟩ b16 hne2).trans zS;have k3:w1.cell? ⟨wr.heap.size,0,none⟩=some (.slice ha hL hc):=(hgrow.cell_far ⟨wr.heap.size,0,none⟩ b16 hne3).trans (by simp [*]);have k4:w1.frozen? ⟨l2.S,k,none⟩=false:=(hgrow.frozen_far ⟨l2.S,k,none⟩ b16 hne2).trans zf;have k5:w3.heap.size<w1.heap.size:=by have:=hgrow.size;simp at this;omega
 clear hgrow hown1 hat;refine hKQ.out _ _ b15 (fun hHeld=>?_);clear hKQ KQ;try go_frame
 refine tk 17 ?_;refine wpAnyH_ready (rs:=[18]) b12 b11 ?_;refine AllReadyH.cons (o:=⟨none,.store 22 (.tmp 42) (.tmp 41),0,_,#[⟨17,.data⟩,⟨16,.data⟩,⟨16,.chain⟩,⟨0,.phase⟩,⟨1,.phase⟩,⟨2,.phase⟩,⟨3,.phase⟩,⟨4,.phase⟩,⟨5,.phase⟩,⟨6,.phase⟩,⟨7,.phase⟩,⟨8,.phase⟩,⟨9,.phase⟩,⟨10,.phase⟩,⟨11,.phase⟩,⟨12,.phase⟩,⟨13,.phase⟩,⟨14,.phase⟩,⟨15,.phase⟩,⟨16,.phase⟩],none⟩) rfl (fun KQ hKQ=>?_) AllReadyH.nil;go_simp;refine hKQ.out _ _ b15 (fun hHeld=>?_);clear hKQ KQ;try go_frame
 refine wpAnyH_done b12 ?_ _;obtain ⟨hp1,hp2⟩:=HPUT.out _ _ _ _ (((Below.refl w3.heap.size w3).alloc Nr _).drew) HOW1.out HGR.out b143;have HP1:=Hd hp1;have HP2:=Hd hp2;clear hp1 hp2;go_wp2_with fail;go_roundw
 case rel=>exact ⟨k+1,{l2 with st:=l2.st.set k ⟨some ⟨g,0,none⟩,cap⟩},by omega,by go_num,HH,HP1,HP2⟩
 case measure=>simp [intOf];omega):p:=h
theorem cl9 {p : Prop} (h:p:=by
 have hwr:IntKind.i64.wrap ((v:Int)/16)=(v:Int)/16:=IntWalk.i64_in _ b10;have HX0:=HX;replace HX:=Hd (HX.out.below Br.drew);have hT:W.heap.size<W1.heap.size:=HX0.out.t.hi;have hM:l.M<W1.heap.size:=HM1.out.g.m.hi;have e1:¬W1.heap.size=W.heap.size:=b10;have e2:¬W.heap.size=W1.heap.size:=b10;have e3:¬W1.heap.size=l.M:=b10;have e4:¬l.M=W1.heap.size:=b10;have hm1:l.R<W1.heap.size:=HM1.out.g.hi _ (by simp [vs]);have f1a:¬W1.heap.size=l.R:=b10;have f1b:¬l.R=W1.heap.size:=b10;have yt4:=HX0.out.t.cell 4 (.int .i64 (v:Int)) b34;have ymR:W1.cell? ⟨l.M,23,none⟩=some (.slice (some ⟨l.R,0,none⟩) s.scr.length s.scr.length):=(HM.out.below HX0.out.bel).cR;have yrr:=HR.out _ (HM.out.below HX0.out.bel);have t4:=HX.out.t.cell 4 (.int .i64 (v:Int)) b34;have mR:W1.drew.cell? ⟨l.M,23,none⟩=some (.slice (some ⟨l.R,0,none⟩) s.scr.length s.scr.length):=(HM.out.below HX.out.bel).cR;have rr:=HR.out _ (HM.out.below HX.out.bel);go_region_held3 (fun w'=>w'.cell? ⟨W.heap.size,4,none⟩=some (.int .i64 (v:Int))∧w'.cell? ⟨l.M,23,none⟩=some (.slice (some ⟨l.R,0,none⟩) s.scr.length s.scr.length)∧w'.cell? ⟨l.R,p,none⟩=some (.slice a0 la c0)) (go_keep) (first|(go_at_call 53;refine (HC.out _ b32).mono ?_;rintro e w2 ⟨rfl,hb⟩;(first|(have HA:=Hd hb;replace HX:=Hd (HX.out.below hb))|(have HB:=Hd hb;obtain ⟨_,⟨f0,f1,f2,f3,f4⟩,fh⟩:=Des.At.five (((At.new W1 [.int .i64 0,.int .i64 0,.int .i64 0,.int .i64 0,.bool false] 139).drew).below hb b38);replace HX:=Hd ((HX.out.below (Br.alloc Nr _)).below hb)));clear hb t4 mR rr;have t4:=HX.out.t.cell 4 (.int .i64 (v:Int)) b34;have mR:w2.cell? ⟨l.M,23,none⟩=some (.slice (some ⟨l.R,0,none⟩) s.scr.length s.scr.length):=(HM.out.below HX.out.bel).cR;have rr:=HR.out _ (HM.out.below HX.out.bel)))
 all_goals
  go_wp2_with fail;go_meet;first|exact ⟨_,rfl,rfl,Hd (Nb.after ((Below.refl W1.heap.size W1).drew.trans HA.out) [.int .i64 a.st,.int .i64 a.cn,.int .i64 a.fi,.int .i64 a.pg,.bool a.wr] 139)⟩|exact ⟨_,rfl,rfl,Hd (Nb.before (T:=139) (zs:=[.int .i64 0,.int .i64 0,.int .i64 0,.int .i64 0,.bool false]) ((Below.refl (W1.alloc _).heap.size (W1.alloc _)).drew.trans HB.out) [.int .i64 a.st,.int .i64 a.cn,.int .i64 a.fi,.int .i64 a.pg,.bool a.wr] rfl)⟩):p:=h
theorem cl10 {p : Prop} (h:p:=by
 go_wp2_with (with_reducible refine Des.hold_load 66 rfl ?_)
 refine Des.load_ato 0 HX.out.t.r Tryz.underlying66 rfl hsz rfl rfl rfl ?_;clear hsz;go_wp2_with fail;refine (HC.out _ _ (exp_ex HM.out HX.out)).mono ?_;rintro e w5 hc;obtain ⟨rfl,hR,hF,hA⟩:=exp_fin HM.out HX.out rfl hc;have HF:=Hd hF;have HA:=Hd hA;obtain ⟨⟨rc0,rc1,rc2⟩,⟨r0,r1,r2⟩,rh⟩:=At.three hR;clear hc hR hF hA HC HX t0;obtain ⟨er,rn,rd⟩:=r;go_wp2_with fail;change bodyPost _ _ _ _ _ (((w5.setCell ⟨W.heap.size+1,0,none⟩ (.int .i64 er)).setCell ⟨W.heap.size+1,1,none⟩ (.int .i64 rn)).setCell ⟨W.heap.size+1,2,none⟩ (.string rd));generalize hwB:((w5.setCell ⟨W.heap.size+1,0,none⟩ (.int .i64 er)).setCell ⟨W.heap.size+1,1,none⟩ (.int .i64 rn)).setCell ⟨W.heap.size+1,2,none⟩ (.string rd)=w9 at *;replace HF:Hid (RefP b q B W l ⟨er,rn,rd⟩ s' (.returned (.agg #[.int .i64 er,.int .i64 rn,.string rd])) w9):=by rw [←hwB];exact HF
 replace HA:Hid (At w9 (W.heap.size+1) [.int .i64 er,.int .i64 rn,.string rd]):=by rw [←hwB];exact HA
 clear rc0 rc1 rc2 r0 r1 r2 rh;obtain ⟨⟨q0,q1,q2⟩,_,_⟩:=At.three HA.out;exact bodyPost_ret (v:=.agg #[.int .i64 er,.int .i64 rn,.string rd]) b49 rfl HF.out):p:=h
theorem cl11 {p : Prop} (h:p:=by
 cases mB with
 |true=>
  go_wp2_with fail;go_roundw
  case rel=>exact ⟨ov,k+1,rfl,by omega,by go_num,by rw [HSK.out,if_pos trivial,List.append_nil];exact HOW5,HB5⟩
  case measure=>simp [intOf];omega
 |false=>
  obtain ⟨i0,hi,hz0,hzs,hzb⟩:=info_parts find_info;have HI:=Hd hi;have HZ:=Hd hz0;have HZS:=Hd hzs;have HZB:=Hd hzb;have HOW6:=Hd (Des.ownsRow_below HOW5.out ((Below.refl w5.heap.size w5).alloc Nr (Obj.cells #[.int .i64 (-1),.int .i64 5] 70)));have HB6:=Hd (HB5.out.alloc HB5.out.size (Obj.cells #[.int .i64 (-1),.int .i64 5] 70));have HN6:Hid (∀j u,([.int .i64 (-1),.int .i64 5]:List Value)[j]? =some u→(w5.alloc (Obj.cells #[.int .i64 (-1),.int .i64 5] 70)).cell? ((⟨w5.heap.size,0,none⟩:Addr).add j)=some u):=Hd (World.news_of_block (Go.heap_alloc_new w5 _));have HS6:Hid ((w5.alloc (Obj.cells #[.int .i64 (-1),.int .i64 5] 70)).heap.size=w5.heap.size+1):=Hd (Des.alloc_size _ _);have hB6:w3.heap.size≤w5.heap.size+1:=by have:=HB5.out.size;omega
  generalize crF R.h ends k=fl at *;clear hi hz0 hzs hzb;go_wp2_with (at_builtin;refine wpList_append_lies _ rfl _ _ _ rfl w3.heap.size 70 i0 (.agg #[.int .i64 0,.int .i64 0]) 2 16 Tryz.underlying54 HI.out HZ.out HZS.out HZB.out rfl b10 ov fl.length (fnd fl) rfl HOW6.out ⟨w5.heap.size,0,none⟩ 1 1 [.int .i64 (-1),.int .i64 5] rfl rfl HN6.out b29 b10 b17 b10 (by rw [HS6.out];exact hB6) (w5.heap.size+1) HS6.out ?_;intro gn cap w7 hown hgrow hat hlt7;have HOW7:=Hd hown;have HGR:=Hd hgrow;clear hown hgrow hat hlt7)
  have HB7:Hid (Below w3.heap.size w3 w7):=Hd (HB6.out.grown HGR.out HB6.out.size (fun q hq=>(HOW5.out.lt q hq).1));have HOW8:Hid (w7.ownsRow w3.heap.size 70 2 (.slice (some ⟨gn,0,none⟩) (fl.length+1) cap) (fl++[(-1,5)]).length (fnd (fl++[(-1,5)]))):=Hd b138;go_wp2_with fail;go_roundw
  case rel=>exact ⟨_,k+1,rfl,by omega,by go_num,by rw [HSK.out,if_neg b11];exact HOW8,HB7⟩
  case measure=>simp [intOf];omega):p:=h
theorem cl12 {p : Prop} (h:p:=by
 obtain ⟨⟨rc0,rc1,rc2⟩,⟨r0,r1,r2⟩,rh⟩:=At.three HL.out.r;go_wp2_with fail;change bodyPost _ _ _ _ _ (((wc.setCell ⟨W.heap.size+1,0,none⟩ (.int .i64 0)).setCell ⟨W.heap.size+1,1,none⟩ (.int .i64 (o.dat.size:Int))).setCell ⟨W.heap.size+1,2,none⟩ (.string ⟨#[]⟩));generalize hwB:((wc.setCell ⟨W.heap.size+1,0,none⟩ (.int .i64 0)).setCell ⟨W.heap.size+1,1,none⟩ (.int .i64 (o.dat.size:Int))).setCell ⟨W.heap.size+1,2,none⟩ (.string ⟨#[]⟩)=w9 at *;have HQ:Hid (At w9 (W.heap.size+1) [.int .i64 0,.int .i64 (o.dat.size:Int),.string ⟨#[]⟩]):=by rw [←hwB];exact Hd (HL.out.finA ⟨0,(o.dat.size:Int),⟨#[]⟩⟩ rfl)
 clear rc0 rc1 rc2 r0 r1 r2 rh;obtain ⟨⟨q0,q1,q2⟩,_,_⟩:=At.three HQ.out;exact bodyPost_ret (v:=.agg #[.int .i64 0,.int .i64 (o.dat.size:Int),.string ⟨#[]⟩]) b22 rfl (by (try rw [HZ9.out]);rw [←hwB];exact HL.out.fin ⟨0,(o.dat.size:Int),⟨#[]⟩⟩ rfl HEX.out b20)):p:=h
theorem cl13 {p : Prop} (h:p:=by
 clear hb1 hr1 klt k0 k1 H1 plt plt2 pne pne' p0 p1 HC;have m0:=M.c0;have m1:=M.c1;have n0:=M.f0;have n1:=M.f1;have q0:=M.h.p0;have q1:=M.h.p1;obtain ⟨u0,r0⟩:=M.h.r0;obtain ⟨u1,r1⟩:=M.h.r1;have f0:=M.h.f0;have f1:=M.h.f1;have gne:g≠w.heap.size:=by have:=M.lo;omega
 have gne':w.heap.size≠g:=by have:=M.lo;omega
 have gne2:g≠w.heap.size+1:=by have:=M.lo;omega
 have gne2':w.heap.size+1≠g:=by have:=M.lo;omega
 by_cases hc:0≤t∧q<t∧t<(l.length:Int)
 ·have HV:Hid (syncV l.length q t=t):=by unfold Hid syncV;rw [if_pos hc]
  have M2:Hst w (W2.setCell ⟨g,1,none⟩ (.int .i64 t)) (.slice a l.length cap) q:=M.h.below (Br.setCell (p:=⟨g,1,none⟩) M.lo _) Nr;have HD:=M2.done (.slice a1 l.length cap1) t (StrRow.put1 HRw HN 1);obtain ⟨h0,h1,h2⟩:=hc;clear M2 M;go_wp2_with fail;generalize ((W2.setCell {block:=g,off:=1} (Value.int IntKind.i64 t)).setCell {block:=w.heap.size+1,off:=0} (Value.slice a1 l.length cap1)).setCell {block:=w.heap.size+1,off:=1} (Value.int IntKind.i64 t)=W3 at *;obtain ⟨d0,d1,d2,d3⟩:=HD;refine bodyPost_ret (v:=.agg #[.slice a1 l.length cap1,.int .i64 t]) (by simp [results,Tryz.results105,go_sem,d0,d1]) rfl ⟨_,_,by rw [HV.out],d3,d2⟩
 ·have HV:Hid (syncV l.length q t=q):=by unfold Hid syncV;rw [if_neg hc]
  have HC:Hid (¬(0≤t∧q<t∧t<(l.length:Int))):=hc;have HD:=M.h.done (.slice a1 l.length cap1) q HRw;clear hc M;go_wp2_with fail
  all_goals
   first
   |(exfalso;have:=HC.out;omega)
   | (generalize (W2.setCell {block:=w.heap.size+1,off:=0} (Value.slice a1 l.length cap1)).setCell {block:=w.heap.size+1,off:=1} (Value.int IntKind.i64 q)=W3 at *
      obtain ⟨d0,d1,d2,d3⟩:=HD;refine bodyPost_ret (v:=.agg #[.slice a1 l.length cap1,.int .i64 q]) (by simp [results,Tryz.results105,go_sem,d0,d1]) rfl ⟨_,_,by rw [HV.out],d3,d2⟩)):p:=h
theorem cl14 {p : Prop} (h:p:=by
 obtain ⟨⟨rc0,rc1,rc2⟩,⟨r0,r1,r2⟩,rh⟩:=At.three HL.out.r;go_wp2_with fail;change bodyPost _ _ _ _ _ (((wc.setCell ⟨W.heap.size+1,0,none⟩ (.int .i64 0)).setCell ⟨W.heap.size+1,1,none⟩ (.int .i64 0)).setCell ⟨W.heap.size+1,2,none⟩ (.string ⟨#[]⟩));generalize hwB:((wc.setCell ⟨W.heap.size+1,0,none⟩ (.int .i64 0)).setCell ⟨W.heap.size+1,1,none⟩ (.int .i64 0)).setCell ⟨W.heap.size+1,2,none⟩ (.string ⟨#[]⟩)=w9 at *;have HQ:Hid (At w9 (W.heap.size+1) [.int .i64 0,.int .i64 0,.string ⟨#[]⟩]):=by rw [←hwB];exact Hd (HL.out.finA ⟨0,0,⟨#[]⟩⟩ rfl)
 clear rc0 rc1 rc2 r0 r1 r2 rh;obtain ⟨⟨q0,q1,q2⟩,_,_⟩:=At.three HQ.out;exact bodyPost_ret (v:=.agg #[.int .i64 0,.int .i64 0,.string ⟨#[]⟩]) b22 rfl b129):p:=h
theorem cl15 {p : Prop} (h:p:=by
 clear hs HSU;go_wp2_with fail;go_quiet (fail);replace HB:=Hd (below_drewN HB.out nq);replace HPB:=Hd (HPB.out.below (below_drewN Br nq));replace HO:=Hd (own_drewN HO.out nq);generalize wr.drewN nq=w8 at *;clear k0 k1 k2 k3 k4 dd0 dd1 dd2 dd3 dd4;have hx9:=HXC.out _ HB.out;obtain ⟨k0,k1,k2,k3,k4⟩:=hx9;simp only at k0 k1 k2 k3 k4;go_wp2_with (at_builtin;refine wpList_append_own _ rfl _ _ 106 rfl (w.heap.size+1) 139 i0 _ 5 40 Tryz.underlying106 hi hz0 hz1 hz2 rfl b14 _ _ _ rfl (HO.out.alloc _) ⟨w8.heap.size,0,none⟩ 1 1 [.int .i64 es,.int .i64 ec,.int .i64 ef,.int .i64 ep,.bool eb] rfl rfl ?c1 ?c2 ?c3 ?c4 ?c5 ?_)
 case c1=>
  intro j u hj;rw [Addr.add_lit];exact cells_at (Blk.new w8 es ec ef ep eb) j u hj
 case c2=>
  intro u hu;simp at hu;rcases hu with rfl|rfl|rfl|rfl|rfl<;>rfl
 case c3=>unfold maxLen;omega
 case c4=>omega
 case c5=>have:=HPB.out.hi;simp;omega
 intro vw9 w9 hown' hgrow _;have hbb:Below (w.heap.size+1) w8 w9:=((Below.refl (w.heap.size+1) w8).alloc HPB.out.hi (Obj.cells #[Value.int IntKind.i64 es,Value.int IntKind.i64 ec,Value.int IntKind.i64 ef,Value.int IntKind.i64 ep,Value.bool eb] 139)).grown hgrow b70 (fun x hx=>(HO.out.lt x hx).1);replace HB:=Hd (HB.out.trans (hbb.mono (Nat.le_succ _)));replace HPB:=Hd (HPB.out.belowB hbb (Nat.lt_succ_self _));replace HO:Hid (w9.ownsRow (w.heap.size+1) 139 5 vw9 (L++[(Ar.mk es ec ef ep eb)]).length (flat (L++[(Ar.mk es ec ef ep eb)]))):=by
  unfold Hid;rw [flat_append,flat_one];simp only [List.length_append,List.length_singleton];simpa [Ar.cells] using hown'
 clear hgrow hown' hbb;go_wp2_with fail;go_roundw
 case rel=>exact ⟨k+1,by omega,by go_num,by rw [HS.out],HB,HPB,by rw [HS.out];exact HO⟩
 case measure=>simp [intOf];omega):p:=h
theorem cl17 {p : Prop} (h:p:=by
 have k1:=HL.out.k.cell 1 (.int .i64 D.fl) rfl;go_wp2_with fail;go_quiet (fail);go_wp2_with fail;go_meet;exact ⟨rfl,rfl,Hd (HL.out.below (below_drewN Br nq))⟩):p:=h
theorem cl18 {p : Prop} (h:p:=by
 have k0:=HL.out.k.cell 0 (.int .i64 (f:Int)) b18;go_wp2_with fail;refine (changeM_any q B {l with ex:=W.heap.size::(W.heap.size+1)::Kb::l.ex} (s) f TD w5 HL.out.m hfn b61 HOK.out.nf b113).mono ?_;rintro e w7 ⟨hs2,rfl,hm2,hv2⟩;have HL3:=Hd (HL.out.stepH hs2 hm2 hv2);clear hm2 hv2;obtain ⟨⟨rc0,rc1,rc2⟩,⟨r0,r1,r2⟩,rh⟩:=At.three HL3.out.r;go_wp2_with fail;change bodyPost _ _ _ _ _ (((w7.setCell ⟨W.heap.size+1,0,none⟩ (.int .i64 0)).setCell ⟨W.heap.size+1,1,none⟩ (.int .i64 0)).setCell ⟨W.heap.size+1,2,none⟩ (.string ⟨#[]⟩));generalize hwB:((w7.setCell ⟨W.heap.size+1,0,none⟩ (.int .i64 0)).setCell ⟨W.heap.size+1,1,none⟩ (.int .i64 0)).setCell ⟨W.heap.size+1,2,none⟩ (.string ⟨#[]⟩)=w9 at *;have HQ:Hid (At w9 (W.heap.size+1) [.int .i64 0,.int .i64 0,.string ⟨#[]⟩]):=by rw [←hwB];exact Hd (HL3.out.finA ⟨0,0,⟨#[]⟩⟩ rfl)
 clear rc0 rc1 rc2 r0 r1 r2 rh;obtain ⟨⟨q0,q1,q2⟩,_,_⟩:=At.three HQ.out;exact bodyPost_ret (v:=.agg #[.int .i64 0,.int .i64 0,.string ⟨#[]⟩]) b22 rfl b112):p:=h
theorem cl19 {p : Prop} (h:p:=by
 have hshr:=own_shrink HFM.out.wk.own.o rfl m' (by show m'≤(O1.take (m'+1)).length;rw [HLM.out];omega) (by show 0<(O1.take (m'+1)).length;rw [HLM.out];omega);simp only at hshr;have htt:(O1.take (m'+1)).take m'=O1.take m':=by rw [List.take_take];congr 1;omega
 have hll:(O1.take m').length=m':=by rw [List.length_take];omega
 rw [htt] at hshr;have hdo:DOwn (w.heap.size+2) wr ⟨some ⟨g3,0,none⟩,y.oc,O1.take m',y.ta,y.tc,tset y.t k j 0⟩:=⟨by show World.ownsRow _ _ _ _ (.slice (some ⟨g3,0,none⟩) (O1.take m').length y.oc) (O1.take m').length _;rw [hll];exact hshr,HFM.out.wk.own.t,HFM.out.wk.own.e,HFM.out.wk.own.d⟩
 have hwk2:=Wk.boxO (x:=⟨some ⟨g3,0,none⟩,y.oc,O1.take (m'+1),y.ta,y.tc,tset y.t k j 0⟩) hdo HFM.out.wk.box HFM.out.wk.lo hll;have HFM2:=Hd (HFM.out.turn ((Below.refl (w.heap.size+2) wr).setCell (p:=⟨O,0,none⟩) HFM.out.wk.lo (.slice (some ⟨g3,0,none⟩) m' y.oc)) hwk2);have HM2:Hid (m'≤O1.length∧0<O1.length∧trim O1=trim (O1.take m')):=⟨by omega,m2,by rw [HTR.out,HTD.out,trim_drop _ _ he]⟩
 have HML2:=Hd (lenAt_of hwk2.box.cc.1);simp only [hll] at HML2;clear hshr htt hll hdo hwk2 HM HFM HTR HTD;generalize he2:e.rf=erf at *;subst he;clear he2;go_wp2_with fail;go_roundw
 case rel=>exact ⟨m',HM2,HFM2⟩
 case measure=>rw [HML.out,HML2.out];omega):p:=h
theorem cl20 {p : Prop} (h:p:=by
 have e3:adB s p o=false:=by unfold adB;rw [if_pos hneg]
 obtain rfl:PR=_:=HE.out.trans (if_pos e3);clear HE;have HZ9:Hid (Z=s):=Hd (HZ.out.trans b11);clear HZ;clear e3 HAF HIN HC HR;go_enter Tryz.func34,Tryz.ntmps34;go_upto_region 1 with (fail)
 generalize World.alloc _ (Obj.cells #[.int .i64 0,.int .i64 0,.string ⟨#[]⟩] 62)=W1 at *;have t4:=HX.out.t.cell 4 (.int .i64 o.off) b13;obtain ⟨⟨rc0,rc1,rc2⟩,⟨r0,r1,r2⟩,rh⟩:=At.three HX.out.r;go_wp2_with fail;change bodyPost _ _ _ _ _ (((W1.setCell ⟨W.heap.size+1,0,none⟩ (.int .i64 4)).setCell ⟨W.heap.size+1,1,none⟩ (.int .i64 0)).setCell ⟨W.heap.size+1,2,none⟩ (.string ⟨#[]⟩));generalize hwB:((W1.setCell ⟨W.heap.size+1,0,none⟩ (.int .i64 4)).setCell ⟨W.heap.size+1,1,none⟩ (.int .i64 0)).setCell ⟨W.heap.size+1,2,none⟩ (.string ⟨#[]⟩)=w9 at *;have HQ:Hid (At w9 (W.heap.size+1) [.int .i64 4,.int .i64 0,.string ⟨#[]⟩]):=by rw [←hwB];exact Hd (HX.out.finA ⟨4,0,⟨#[]⟩⟩ rfl)
 clear rc0 rc1 rc2 r0 r1 r2 rh;obtain ⟨⟨q0,q1,q2⟩,_,_⟩:=At.three HQ.out;exact bodyPost_ret (v:=.agg #[.int .i64 4,.int .i64 0,.string ⟨#[]⟩]) b46 rfl (by (try rw [HZ9.out]);rw [←hwB];exact HX.out.fin HM.out ⟨4,0,⟨#[]⟩⟩ rfl)):p:=h
theorem cl21 {p : Prop} (h:p:=by
 go_wp2_with (first|(go_at_call 124;refine (HL.out _).mono ?_;rintro e w' ⟨rfl,rfl⟩)|(go_at_call 125;refine (HB.out _).mono ?_;rintro e w' ⟨rfl,rfl⟩))
 go_ret2;rw [HR.out];exact ⟨rfl,Below.refl _ _⟩):p:=h
theorem cl22 {p : Prop} (h:p:=by
 have HE2:=HE;obtain rfl:PR=_:=HE.out.trans (if_pos rfl);clear HE HE2;have HZ9:Hid (Z=s):=Hd (HZ.out.trans b11);clear HZ;obtain ⟨⟨rc0,rc1,rc2⟩,⟨r0,r1,r2⟩,rh⟩:=At.three HL.out.r;go_wp2_with fail;change bodyPost _ _ _ _ _ (((wc.setCell ⟨W.heap.size+1,0,none⟩ (.int .i64 4)).setCell ⟨W.heap.size+1,1,none⟩ (.int .i64 0)).setCell ⟨W.heap.size+1,2,none⟩ (.string ⟨#[]⟩));generalize hwB:((wc.setCell ⟨W.heap.size+1,0,none⟩ (.int .i64 4)).setCell ⟨W.heap.size+1,1,none⟩ (.int .i64 0)).setCell ⟨W.heap.size+1,2,none⟩ (.string ⟨#[]⟩)=w9 at *;have HQ:Hid (At w9 (W.heap.size+1) [.int .i64 4,.int .i64 0,.string ⟨#[]⟩]):=by rw [←hwB];exact Hd (HL.out.finA ⟨4,0,⟨#[]⟩⟩ rfl)
 clear rc0 rc1 rc2 r0 r1 r2 rh;obtain ⟨⟨q0,q1,q2⟩,_,_⟩:=At.three HQ.out;exact bodyPost_ret (v:=.agg #[.int .i64 4,.int .i64 0,.string ⟨#[]⟩]) b46 rfl b142):p:=h
theorem cl23 {p : Prop} (h:p:=by
 clear HE;have HZ9:Hid (Z=s):=Hd (HZ.out.trans b11);clear HZ;obtain ⟨⟨rc0,rc1,rc2⟩,⟨r0,r1,r2⟩,rh⟩:=At.three HL.out.r;go_wp2_with fail;change bodyPost _ _ _ _ _ (((wc.setCell ⟨W.heap.size+1,0,none⟩ (.int .i64 12)).setCell ⟨W.heap.size+1,1,none⟩ (.int .i64 0)).setCell ⟨W.heap.size+1,2,none⟩ (.string ⟨#[]⟩));generalize hwB:((wc.setCell ⟨W.heap.size+1,0,none⟩ (.int .i64 12)).setCell ⟨W.heap.size+1,1,none⟩ (.int .i64 0)).setCell ⟨W.heap.size+1,2,none⟩ (.string ⟨#[]⟩)=w9 at *;have HQ:Hid (At w9 (W.heap.size+1) [.int .i64 12,.int .i64 0,.string ⟨#[]⟩]):=by rw [←hwB];exact Hd (HL.out.finA ⟨12,0,⟨#[]⟩⟩ rfl)
 clear rc0 rc1 rc2 r0 r1 r2 rh;obtain ⟨⟨q0,q1,q2⟩,_,_⟩:=At.three HQ.out;exact bodyPost_ret (v:=.agg #[.int .i64 12,.int .i64 0,.string ⟨#[]⟩]) b46 rfl (by (try rw [HZ9.out]);rw [←hwB];exact HL.out.fin ⟨12,0,⟨#[]⟩⟩ rfl HEX.out b20)):p:=h
theorem cl24 {p : Prop} (h:p:=by
 have hw5:=HAA.out.store [.int .i64 0,.int .i64 0,.int .i64 0,.int .i64 0,.int .i64 0] rfl;have hb5:Below w.heap.size w (w2.setCells (w.heap.size+1) 0 [.int .i64 0,.int .i64 0,.int .i64 0,.int .i64 0,.int .i64 0]):=below_cells b10 _ _ HB.out;simp only [World.setCells] at hw5 hb5;go_wp2_with fail
 all_goals first|(exfalso;have:=HNEG.out;omega)|(generalize ((((w2.setCell {block:=w.heap.size+1,off:=0} (Value.int IntKind.i64 0)).setCell {block:=w.heap.size+1,off:=1} (Value.int IntKind.i64 0)).setCell {block:=w.heap.size+1,off:=2} (Value.int IntKind.i64 0)).setCell {block:=w.heap.size+1,off:=3} (Value.int IntKind.i64 0)).setCell {block:=w.heap.size+1,off:=4} (Value.int IntKind.i64 0)=w5 at *;obtain ⟨⟨d0,d1,d2,d3,d4⟩,_,_⟩:=hw5.five;refine bodyPost_ret (v:=.tuple #[.int .i64 0,.agg #[.int .i64 0,.int .i64 0,.int .i64 0,.int .i64 0,.int .i64 0],.int .i64 4]) b81 rfl ?_;exact ⟨by rw [HL2.out];rfl,hb5⟩)):p:=h
theorem cl25 {p : Prop} (h:p:=by
 have HFA:Hid (Far B l2 (ordS (stS s) x) w7 w8 wA):=Hd ⟨K2,w5,HTB.out.m,by rw [HK2E.out];exact HB6.out.trans (HN.out.bel.mono b10),by rw [HK2E.out];exact Nat.le_refl _,by have:=HN.out.bel.size;omega,HV9.out.trans (Vk.ofBelow HBA.out)⟩;have hneq:=neq_fn kf caps wA;have hcf2:=hcf;go_wp2_with fail;refine (hcl wA HFA.out).mono ?_;rintro e wB ⟨x',ar',hs',rfl,hm,hv⟩;have HTC:Hid (Tk B W wB l {l2 with x:=x',ar:=ar',hs:=hs'} s'):=Hd (HTA.out.step hm hv (fun _ h=>Or.inl h) rfl rfl);clear hm hv q0 q1 q2 q3 o0 v6;cases okB with
 |true=>
  go_wp2_with fail;exact bodyPost_ret (v:=.int .i64 jv) b62 rfl ⟨{l2 with x:=x',ar:=ar',hs:=hs'},by rw [HTK.out];rfl,by rw [HTK.out];exact HTC.out⟩
 |false=>
  go_wp2_with fail;exact bodyPost_ret (v:=.int .i64 4) b62 rfl ⟨{l2 with x:=x',ar:=ar',hs:=hs'},by rw [HTK.out];rfl,by rw [HTK.out];exact HTC.out⟩):p:=h
theorem cl26 {p : Prop} (h:p:=by
 clear hbad;obtain ⟨⟨rc0,rc1,rc2⟩,⟨r0,r1,r2⟩,rh⟩:=At.three HL.out.r;go_wp2_with fail;change bodyPost _ _ _ _ _ (((wc.setCell ⟨W.heap.size+1,0,none⟩ (.int .i64 3)).setCell ⟨W.heap.size+1,1,none⟩ (.int .i64 0)).setCell ⟨W.heap.size+1,2,none⟩ (.string ⟨#[]⟩));generalize hwB:((wc.setCell ⟨W.heap.size+1,0,none⟩ (.int .i64 3)).setCell ⟨W.heap.size+1,1,none⟩ (.int .i64 0)).setCell ⟨W.heap.size+1,2,none⟩ (.string ⟨#[]⟩)=w9 at *;have HQ:Hid (At w9 (W.heap.size+1) [.int .i64 3,.int .i64 0,.string ⟨#[]⟩]):=by rw [←hwB];exact Hd (HL.out.finA ⟨3,0,⟨#[]⟩⟩ rfl)
 clear rc0 rc1 rc2 r0 r1 r2 rh;obtain ⟨⟨q0,q1,q2⟩,_,_⟩:=At.three HQ.out;exact bodyPost_ret (v:=.agg #[.int .i64 3,.int .i64 0,.string ⟨#[]⟩]) b22 rfl (by (try rw [HZ9.out]);rw [←hwB];exact HL.out.fin ⟨3,0,⟨#[]⟩⟩ rfl HEX.out b20)):p:=h
theorem cl27 {p : Prop} (h:p:=by
 go_wp2_with fail;refine (bad_any 2 _).mono ?_;rintro e w5 ⟨rfl,hb⟩;replace HX:=Hd (HX.out.below hb);clear hb;obtain ⟨_,⟨r0,r1,r2,r3⟩,rh⟩:=At.four HX.out.r;obtain ⟨rc0,rc1,rc2,rc3⟩:=(At.four HX.out.r).1;go_wp2_with fail;generalize hwB:(((w5.setCell ⟨W.heap.size+1,0,none⟩ (.int .i64 2)).setCell ⟨W.heap.size+1,1,none⟩ (.int .i64 0)).setCell ⟨W.heap.size+1,2,none⟩ (.string ⟨#[]⟩)).setCell ⟨W.heap.size+1,3,none⟩ (.nilFunc)=w9 at *;have HP:Bx2 W w9 W.heap.size (W.heap.size+1) cs [.int .i64 2,.int .i64 0,.string ⟨#[]⟩,.nilFunc]:=by rw [←hwB];exact HX.out.putR [.int .i64 2,.int .i64 0,.string ⟨#[]⟩,.nilFunc] rfl
 skip
 clear r0 r1 r2 r3 rc0 rc1 rc2 rc3;obtain ⟨⟨q0,q1,q2,q3⟩,_,_⟩:=At.four HP.r;exact bodyPost_ret (v:=.agg #[.int .i64 2,.int .i64 0,.string ⟨#[]⟩,.nilFunc]) b109 rfl ⟨_,rfl,HP.bel,Or.inl ⟨rfl,rfl⟩⟩):p:=h
theorem cl28 {p : Prop} (h:p:=by
 go_wp2_with fail;refine (bad_any 2 _).mono ?_;rintro e w5 ⟨rfl,hb⟩;replace HX:=Hd (HX.out.below hb);clear hb;obtain ⟨_,⟨r0,r1,r2,r3⟩,rh⟩:=At.four HX.out.r;obtain ⟨rc0,rc1,rc2,rc3⟩:=(At.four HX.out.r).1;go_wp2_with fail;generalize hwB:(((w5.setCell ⟨W.heap.size+1,0,none⟩ (.int .i64 2)).setCell ⟨W.heap.size+1,1,none⟩ (.int .i64 0)).setCell ⟨W.heap.size+1,2,none⟩ (.string ⟨#[]⟩)).setCell ⟨W.heap.size+1,3,none⟩ (.nilFunc)=w9 at *;have HP:Bx2 W w9 W.heap.size (W.heap.size+1) cs [.int .i64 2,.int .i64 0,.string ⟨#[]⟩,.nilFunc]:=by rw [←hwB];exact HX.out.putR [.int .i64 2,.int .i64 0,.string ⟨#[]⟩,.nilFunc] rfl
 skip
 clear r0 r1 r2 r3 rc0 rc1 rc2 rc3;obtain ⟨⟨q0,q1,q2,q3⟩,_,_⟩:=At.four HP.r;exact bodyPost_ret (v:=.agg #[.int .i64 2,.int .i64 0,.string ⟨#[]⟩,.nilFunc]) b110 rfl ⟨_,rfl,HP.bel,Or.inl ⟨rfl,rfl⟩⟩):p:=h
theorem cl29 {p : Prop} (h:p:=by
 have h1:=Des.lookupR_any l.x p o.fd W' (h.below hb).g.im.di.di (h.dz ok.rt);rw [h.g.im.dp] at h1;exact h1):p:=h
theorem cl31 {p : Prop} (h:p:=by
 rw [flat_append,flat_one];simp only [List.length_append,List.length_singleton];simpa [Ar.cells] using hown'):p:=h
theorem cl32 {p : Prop} (h:p:=by
 obtain ⟨hA5,hD5,hB5⟩:=HFR.out.fin;have e0:=hA5.cell 0 _ rfl;have e1:=hA5.cell 1 _ rfl;have hpo:=HP.out y _ b41 hD5 hB5;rw [HOE2.out] at hpo;have HPo:=Hd hpo;obtain ⟨r0,r1,r2,r3,r4⟩:=HFR.out.r.two;obtain ⟨x0,x1,x2,x3,x4⟩:=HFR.out.wk.box.cc;clear hA5 hD5 hB5 hpo;go_wp2_with fail
 all_goals first|(exfalso;have:=HNEG.out;omega)|(generalize ((w3.setCell ⟨w.heap.size+2,0,none⟩ (.slice y.oa y.o.length y.oc)).setCell ⟨w.heap.size+2,1,none⟩ (.slice y.ta y.t.length y.tc))=w9 at *;exact bodyPost_ret (v:=.tuple #[.agg #[.slice y.oa y.o.length y.oc,.slice y.ta y.t.length y.tc],.int .i64 4]) b90 rfl HPo.out)):p:=h
theorem cl33 {p : Prop} (h:p:=by
 intro W hb j hj;obtain ⟨g,h1,h2,h3,h4,h5,h6⟩:=(h.below hb).at b10;exact ⟨g,h1,h3,by omega,h6 j hj⟩):p:=h
theorem cl34 {p : Prop} (h:p:=by
 go_wp2_with (with_reducible refine Des.hold_load 122 rfl ?_)
 refine Des.load_ato 0 HT.out.r Tryz.underlying122 rfl b28 rfl rfl rfl ?_;go_wp2_with fail;refine HU.out.mono ?_;rintro e w' ⟨hs,rfl,hm,hv⟩;have HM:=Hd hm;have HV:=Hd hv;clear hm hv HU;go_wp2_with fail;go_end0;exact ⟨l.x,l.ar,hs,rfl,HM.out,HV.out⟩):p:=h
theorem cl35 {p : Prop} (h:p:=by
 go_enter Tryz.func134,Tryz.ntmps134;go_wp2_with (at_builtin;refine wpList_append_own _ rfl _ _ 106 rfl B 139 i0 _ 5 40 Tryz.underlying106 hi hz0 hz1 hz2 rfl b14 _ _ _ rfl HO.out ⟨vb,0,none⟩ 1 1 [.int .i64 s,.int .i64 c,.int .i64 f,.int .i64 p,.bool b] rfl rfl ?c1 ?c2 ?c3 ?c4 hB ?_)
 case c1=>
  intro j u hj;rw [Addr.add_lit];exact HV5.out j u hj
 case c2=>
  intro u hu;simp at hu;rcases hu with rfl|rfl|rfl|rfl|rfl<;>rfl
 case c3=>unfold maxLen;omega
 case c4=>omega
 intro v' w' hown' hgrow _;have HP:Hid (InsPost B l l.length ⟨s,c,f,p,b⟩ w (.returned v') w'):=insPost_of hown' hgrow HO.out hB;clear hown' hgrow;go_wp2_with fail;go_ret;exact HP.out):p:=h
theorem cl105 {p : Prop} (h:p:=by
 refine wpAnyH_ready (rs:=[8]) b12 b11 ?_;refine AllReadyH.cons (o:=⟨none,.store 117 (.tmp 13) (.tmp 97),0,_,#[⟨7,.data⟩,⟨5,.data⟩,⟨0,.chain⟩,⟨0,.phase⟩,⟨1,.phase⟩,⟨2,.phase⟩,⟨3,.phase⟩,⟨4,.phase⟩,⟨5,.phase⟩,{on:=6,ground:=Ground.textOnly Departure.lateStores},⟨7,.phase⟩],none⟩) rfl (fun KQ hKQ=>?_) AllReadyH.nil;go_simp;refine hKQ.out _ _ b15 (fun hHeld=>?_);clear hKQ KQ;try go_frame
 refine tk 9 ?_;refine wpAnyH_done b12 ?_ _;go_wp2_with fail;go_meet;exact ⟨_,rfl,rfl,Hd (Nb.after HB.out [.func (.func (65+m)) #[] #[]] 117)⟩):p:=h
theorem cl36 {p : Prop} (h:p:=by
 go_wp2_with fail;go_quiet (fail);go_wp2_with fail;go_roundw
 case rel=>exact ⟨k+1,by omega,by go_num,HV,below_drewN HB.out _⟩
 case measure=>simp [intOf];omega):p:=h
theorem cl37 {p : Prop} (h:p:=by
 go_enter Tryz.func152,Tryz.ntmps152;go_wp2_with fail
 (first|go_region_with (go_at_call 159;refine (right_any _ _ _).mono ?_;rintro e w' ⟨rfl,hb⟩;obtain ⟨hc,hf⟩:=bcell hb;have hy:w.heap.size<w'.heap.size:=bnext (B:=w.heap.size+1) hb b63)|fail)
 all_goals
  go_wp2;go_ret;refine RetW.mk (by simp [Act.put, *];try omega) ?_
  repeat (first|exact Below.refl _ _ |(refine Below.drew ?_)|(refine Below.setCell ?_ b11 _)|(refine Below.alloc ?_ (by first|(simp;done)|(simp;omega)) _)|refine Below.trans ?_ (Below.mono b39 (by first|omega|(simp;done)|(simp;omega))))):p:=h
theorem cl38 {p : Prop} (h:p:=by
 go_wp2_with (with_reducible refine Des.hold_load 64 rfl ?_)
 refine Des.load_ato 0 HX.out.t.r Tryz.underlying64 rfl HSZ.out rfl rfl rfl ?_;go_wp2_with (with_reducible refine Des.hold_load 66 rfl ?_)
 refine Des.load_ato 0 HX.out.r.r Tryz.underlying66 rfl HSZ2.out rfl rfl rfl ?_;go_wp2_with fail;refine (HCL.out _ HX.out.bel).mono ?_;rintro e w5 ⟨x',ar',hs',rfl,hm,hv⟩;have HF:=Hd hm;have HV:=Hd ((Vk.ofBelow HX.out.bel).trans hv);clear hm hv a0 a1 a2 b0 b1 b2 oc0;go_wp2_with fail;exact bodyPost_ret (v:=.int .i64 0) b117 rfl ⟨x',ar',hs',rfl,by rw [HZ9.out];exact HF.out,HV.out⟩):p:=h
theorem cl39 {p : Prop} (h:p:=by
 have h1:=HFR.out.wk.own.o;have h2:=HFR.out.wk.own.e _ (List.getElem_mem hkt);rw [b1] at h1;have c4':=c4;rw [getD_get hkt] at c4';unfold Tb.val at h2;rw [c4'] at h2;exact own_ne h1 h2 b14):p:=h
theorem cl40 {p : Prop} (h:p:=by
 have h0:=HW.out.own;refine DOwn.mono (B:=w.heap.size+2) ⟨?_,?_,fun z hz=>?_,h0.d⟩ b10
 ·exact own_apart (own_apart h0.o _ _ (fun q hq=>tyR q _ _ _ _ _ h0.o hq)) _ _ (fun q hq=>tyR q _ _ _ _ _ h0.o hq)
 ·exact own_apart (own_apart h0.t _ _ (fun q hq=>tyR q _ _ _ _ _ h0.t hq)) _ _ (fun q hq=>tyR q _ _ _ _ _ h0.t hq)
 ·exact own_apart (own_apart (h0.e z hz) _ _ (fun q hq=>tyR q _ _ _ _ _ (h0.e z hz) hq)) _ _ (fun q hq=>tyR q _ _ _ _ _ (h0.e z hz) hq)):p:=h
theorem cl41 {p : Prop} (h:p:=by
 have h0:=HW.out.own;refine DOwn.mono (B:=w.heap.size+1) ⟨?_,?_,fun z hz=>?_,h0.d⟩ b10
 ·exact own_apart (own_apart h0.o _ _ (fun q hq=>tyR q _ _ _ _ _ h0.o hq)) _ _ (fun q hq=>tyR q _ _ _ _ _ h0.o hq)
 ·exact own_apart (own_apart h0.t _ _ (fun q hq=>tyR q _ _ _ _ _ h0.t hq)) _ _ (fun q hq=>tyR q _ _ _ _ _ h0.t hq)
 ·exact own_apart (own_apart (h0.e z hz) _ _ (fun q hq=>tyR q _ _ _ _ _ (h0.e z hz) hq)) _ _ (fun q hq=>tyR q _ _ _ _ _ (h0.e z hz) hq)):p:=h
theorem cl42 {p : Prop} (h:p:=by
 go_enter Tryz.func92,Tryz.ntmps92;go_wp2_with (first|(go_at_call 124;refine (HL.out _).mono ?_;rintro e w' ⟨rfl,rfl⟩)|(go_at_call 125;refine (HB.out _).mono ?_;rintro e w' ⟨rfl,rfl⟩))
 go_ret2;rw [HR.out];exact ⟨rfl,rfl⟩):p:=h
theorem cl43 {p : Prop} (h:p:=by
 have HQ:Hid (At w9 (W.heap.size+1) [.int .i64 0,.int .i64 0,.string ⟨#[]⟩]):=by rw [←hwB];exact Hd (HX.out.finA ⟨0,0,⟨#[]⟩⟩ rfl)
 clear rc0 rc1 rc2 r0 r1 r2 rh;obtain ⟨⟨q0,q1,q2⟩,_,_⟩:=At.three HQ.out;exact bodyPost_ret (v:=.agg #[.int .i64 0,.int .i64 0,.string ⟨#[]⟩]) b49 rfl (by (try rw [HZ9.out]);rw [←hwB];exact HX.out.fin HM.out ⟨0,0,⟨#[]⟩⟩ rfl)):p:=h
theorem cl45 {p : Prop} (h:p:=by
 have hk:∀b,DBlk y b→DBlk l.x b∨W1.heap.size+1≤b:=fun b hb=>by
  rcases ha.blk b hb with h1|h1
  ·exact Or.inl h1
  ·exact Or.inr (by
    have e:(W1.alloc (.cells zs.toArray T)).drew.heap.size=W1.heap.size+1:=Des.alloc_size _ _;omega)
 refine ⟨dsets us ha.di fun b hb=>?_,fun b hb=>(hk b hb).imp id b10⟩;rcases hk b hb with h1|h1
 ·have:=h.im.di.di.blk h1;omega
 ·omega):p:=h
theorem cl46 {p : Prop} (h:p:=by
 go_wp2_with fail;go_roundw
 case rel=>exact ⟨k+1,by omega,by go_num,HB,by rw [HOS.out];exact HO⟩
 case measure=>simp [intOf];omega):p:=h
theorem cl47 {p : Prop} (h:p:=by
 go_wp2_with fail;go_ret2;exact ⟨b2,c2,by rw [HVV.out];rfl,by rw [HVV.out];exact ((ARow.ofOwn' HO.out).mono (Nat.le_succ _)),HB.out⟩):p:=h
theorem cl48 {p : Prop} (h:p:=by
 go_wp2_with (with_reducible refine Des.hold_load 122 rfl ?_)
 refine Des.load_ato 0 HT.out.r Tryz.underlying122 rfl b28 rfl rfl rfl ?_;go_wp2_with fail;refine HU.out.mono ?_;rintro e w' ⟨y,rfl,hpl,hm,hv⟩;have HM:=Hd hm;have HV:=Hd hv;have HP:=Hd hpl;clear hm hv hpl HU;go_wp2_with fail;go_end0;exact ⟨y,l.ar,l.hs,rfl,by rw [←HP.out];exact HM.out,HV.out⟩):p:=h
theorem cl49 {p : Prop} (h:p:=by
 intro L
 induction L with
 |nil=>intro i hi;cases hi
 |cons a l ih=>
  intro i hi;rw [List.flatMap_cons];have ha:a.cells.length=9:=rfl;cases i with
  |zero=>rw [List.getElem?_append_left (by rw [ha];omega)];simp
  |succ i=>
   rw [List.getElem?_append_right (by rw [ha];omega),ha,show (i+1)*9+j-9=i*9+j from by omega,ih i (by simpa using hi)];simp):p:=h
theorem cl50 {p : Prop} (h:p:=by
 have:lkE s p o.fd 2=4:=by unfold lkE;rw [if_pos (show numE s.d p o.fd≠0 by rw [h1];exact no4),h1]
 rw [this,if_pos no4,if_pos (show numE s.d p o.fd≠0 by rw [h1];exact no4)]):p:=h
theorem cl51 {p : Prop} (h:p:=by
 have:lkE s p o.fd 0=4:=by unfold lkE;rw [if_pos (show numE s.d p o.fd≠0 by rw [h1];exact no4),h1]
 rw [this,if_pos no4,if_pos (show numE s.d p o.fd≠0 by rw [h1];exact no4)]):p:=h
theorem cl52 {p : Prop} (h:p:=by
 cases okB with
 |true=>
  go_wp2_with fail;exact bodyPost_ret (v:=.int .i64 jv) b62 rfl ⟨l2,by rw [HTK.out];rfl,by rw [HTK.out];exact HTA.out⟩
 |false=>
  go_wp2_with fail;exact bodyPost_ret (v:=.int .i64 4) b62 rfl ⟨l2,by rw [HTK.out];rfl,by rw [HTK.out];exact HTA.out⟩):p:=h
theorem cl53 {p : Prop} (h:p:=by
 go_wp2_with fail;go_roundw
 case rel=>exact ⟨j+1,by omega,by go_num,HA2,HW2⟩
 case measure=>simp [intOf];omega):p:=h
theorem cl54 {p : Prop} (h:p:=by
 refine ⟨⟨⟨rfl,Or.inl ⟨rfl,rfl⟩⟩,⟨rfl,Or.inl ⟨rfl,rfl⟩⟩,(fun y hy=>by cases hy),List.Pairwise.nil⟩,?_,Nat.le_refl _⟩;have:=Bx.new (w.alloc (Obj.cells #[.slice none 0 0,.slice none 0 0] 83)) Dv.nil;rw [show (w.alloc (Obj.cells #[.slice none 0 0,.slice none 0 0] 83)).heap.size=w.heap.size+1 from by simp] at this;exact this):p:=h
theorem cl55 {p : Prop} (h:p:=by
 go_wp2_with fail;go_end0
 (obtain ⟨x',ar',hs',_,h1,h2⟩:=hfin.out;first|exact ⟨x',ar',hs',rfl,h1,h2⟩|exact ⟨rfl,⟨x',ar',hs',h1⟩,h2⟩)):p:=h
theorem cl56 {p : Prop} (h:p:=by
 have d0:=HD.c0;have d1:=HD.c1;have d2:=HD.c2;have d3:=HD.c3;have d4:=HD.c4;simp only at d0 d1 d2 d3 d4;refine bodyPost_ret (v:=.tuple #[.agg #[.int .i64 0,.int .i64 0,.int .i64 0,.int .i64 0,.bool false],.bool false]) (by simp [results,Tryz.results137,go_sem,d0,d1,d2,d3,d4]) rfl ⟨by rw [hv];rfl,HBD⟩):p:=h
theorem cl57 {p : Prop} (h:p:=by
 have d0:=HD.c0;have d1:=HD.c1;have d2:=HD.c2;have d3:=HD.c3;have d4:=HD.c4;simp only at d0 d1 d2 d3 d4;refine bodyPost_ret (v:=.tuple #[.agg #[.int .i64 0,.int .i64 0,.int .i64 0,.int .i64 0,.bool false],.bool false]) (by simp [results,Tryz.results53,go_sem,d0,d1,d2,d3,d4]) rfl ⟨by rw [hv];rfl,HBD⟩):p:=h
theorem cl106 {p : Prop} (h:p:=by
 refine tk 18 ?_;refine tk 19 ?_;refine tn 20 ?_;refine tn 21 ?_;refine tn 22 ?_;refine tn 23 ?_;refine tn 24 ?_;refine tn 25 ?_;refine tn 26 ?_;refine tn 27 ?_;refine tn 28 ?_;refine tn 29 ?_;refine tk 30 ?_;refine wpAnyH_done b12 ?_ _;go_wp2_with fail;go_ret;exact RetW.mk b24 HBX.out.drew):p:=h
theorem cl58 {p : Prop} (h:p:=by
 have hcf1I:(1:Int)≤(cfn:Int):=by simp at hcf1;omega
 have HB512:=Hd (HB511.out.trans (hb.mono HB511.out.size));clear hfc hown hb HCALL HL11;unfold maxLen at hcf2;go_wp2_with fail;go_roundw
 case rel=>exact ⟨i+1,by omega,by go_num,HB512⟩
 case measure=>simp [intOf];omega):p:=h
theorem cl59 {p : Prop} (h:p:=by
 have HW2:=HW.out;rw [htt,←HFL.out] at HW2;have HT2:=HTP.out;rw [htb] at HT2;replace HW2:=Hd HW2;replace HT2:=Hd HT2;clear htt hA htb;go_wp2_with fail;go_roundw
 case rel=>exact ⟨k+1,by omega,by go_num,HT2,HW2⟩
 case measure=>simp [intOf];omega):p:=h
theorem cl60 {p : Prop} (h:p:=by
 go_wp2_with fail
 all_goals
  first
  |(exfalso;have:=HB.out;omega)
  | (go_ret2
     rw [HR.out];exact ⟨rfl,Below.refl _ _⟩)):p:=h
theorem cl61 {p : Prop} (h:p:=by
 go_wp2_with (go_at_call 124;refine (HL.out _).mono ?_;rintro e w' ⟨rfl,rfl⟩)
 go_ret2;rw [HR.out];exact ⟨rfl,Below.refl _ _⟩):p:=h
theorem cl62 {p : Prop} (h:p:=by
 refine ⟨b,c,h2,h3.mono (Nat.zero_le _),fun g hg hm2=>?_,h4⟩;rcases h3 with ⟨h5,_⟩|⟨g2,h5,h6,_⟩
 ·rw [h5] at hg;cases hg
 ·rw [h5] at hg;cases hg;have h8:g2<W'.heap.size:=hm.g.hix _ hm2;have h7:W'.heap.size≤g2:=h6;omega):p:=h
theorem cl63 {p : Prop} (h:p:=by
 obtain ⟨h1,h2,h3,f1,f2,q,h5,h6,_⟩:=num_ok hp;rw [pl_t] at h3;have h4:=check_tab h1 p.toNat b66;have h7:=rf_bd h1 q h5;exact ⟨h2,h3,f1,f2,map_getD x.t p.toNat b10,h4.1,(check_len h1).2.2,q,h5,h6,h7.1,h7.2⟩):p:=h
theorem cl64 {p : Prop} (h:p:=by
 intro u hu;obtain ⟨a,_,ha⟩:=List.mem_flatMap.1 hu;simp [Ar.cells] at ha;rcases ha with rfl|rfl|rfl|rfl|rfl<;>rfl):p:=h
theorem cl65 {p : Prop} (h:p:=by
 obtain ⟨h1,h2,h3,_,_,q,h5,h6,_⟩:=num_ok hp;rw [pl_t] at h3;have h4:=check_tab h1 p.toNat b66;have h7:=rf_bd h1 q h5;exact ⟨h2,h3,map_getD x.t p.toNat b10,h4.1,(check_len h1).2.2,q,h5,h6,h7.1,h7.2⟩):p:=h
theorem cl66 {p : Prop} (h:p:=by
 first
 |exact ⟨rfl,rfl,rfl,rfl,rfl⟩
 | (intro u hu
    simp at hu;rcases hu with rfl|rfl|rfl|rfl|rfl<;>rfl)):p:=h
theorem cl68 {p : Prop} (h:p:=by
 go_wp2_with fail;refine (HCL.out _ HB.out).mono ?_;rintro e w2 ⟨b,c,rfl,hr,hb⟩;replace HB:=Hd (HB.out.trans (hb.mono HB.out.size));go_wp2_with fail;go_ret2;exact ⟨b,c,by rw [HVV.out];rfl,by rw [HVV.out];exact hr,HB.out⟩):p:=h
theorem cl69 {p : Prop} (h:p:=by
 clear HNX HHH;go_wp2_with fail;go_quiet (fail);go_wp2_with fail;go_roundw
 case rel=>exact ⟨k+1,by omega,by go_num,below_drewN HB.out nq,HZ.out.below (below_drewN Br nq),HN2⟩
 case measure=>simp [intOf];omega):p:=h
theorem cl70 {p : Prop} (h:p:=by
 unfold syncR;generalize (if (Des.lookV s.d p o.fd).cu<s.fa.getD (Des.lookV s.d p o.fd).fi.toNat 0 then s.la.getD (Des.lookV s.d p o.fd).fi.toNat 0 else 0)=q;split;exact ⟨rfl,rfl⟩;unfold syS;split<;>exact ⟨rfl,rfl⟩):p:=h
theorem cl71 {p : Prop} (h:p:=by
 rw [hp] at h2;exact ⟨⟨hm.h.cell (f*2) _ h1,hm.h.cell (f*2+1) _ h2⟩,hm.h.free (f*2) b97,hm.h.free (f*2+1) b97,hm.h.hi⟩):p:=h
theorem cl72 {p : Prop} (h:p:=by
 have h1:=DCel.new (w.alloc (Obj.cells #[.slice x.oa x.o.length x.oc,.slice x.ta x.t.length x.tc] 83)) ⟨fi,fl,f,c,rf⟩;rw [alloc_size] at h1;rw [hW0];exact h1.below (Br.alloc Nr _) b11):p:=h
theorem cl73 {p : Prop} (h:p:=by
 go_wp2_with fail;go_ret2;exact ⟨a,cap,by rw [HVV.out];rfl,Or.inr ⟨rfl,rfl,by rw [HVV.out]⟩,HB.out⟩):p:=h
theorem cl74 {p : Prop} (h:p:=by
 have h5:j=0∨j=1∨j=2∨j=3∨j=4:=b10;rcases h5 with rfl|rfl|rfl|rfl|rfl<;>simp [Ar.cells] at hj<;>subst hj
 ·exact hv.c0
 ·exact hv.c1
 ·exact hv.c2
 ·exact hv.c3
 ·exact hv.c4):p:=h
theorem cl75 {p : Prop} (h:p:=by
 go_wp2_with fail;go_quiet (fail);go_wp2_with fail;go_roundw
 case rel=>exact ⟨k+1,by omega,by go_num,below_drewN HB.out _,HPB.out.below (below_drewN Br _),HHS2⟩
 case measure=>simp [intOf];omega):p:=h
theorem cl76 {p : Prop} (h:p:=by
 refine ⟨h.1,?_⟩;rcases h.2 with hn|⟨g,cap,cur,rfl,hg,hgg,rest⟩
 ·exact Or.inl hn
 ·exact Or.inr ⟨g,cap,cur,rfl,hg,by rw [hb.block g (Array.getElem?_eq_some_iff.1 hgg).1];exact hgg,rest⟩):p:=h
theorem cl77 {p : Prop} (h:p:=by
 go_wp2_with fail;go_quiet (fail);go_wp2_with fail;go_meet;exact ⟨by simp [h2],Hd (HX.out.below (below_drewN Br nq)),Hd (HK.out.below (below_drewN Br nq) HK.out.hi)⟩):p:=h
theorem cl78 {p : Prop} (h:p:=by
 exact ⟨g,o,c2,h1,Nat.lt_of_lt_of_le h2 hb.size,h3,h4,fun i hi=>by
  obtain ⟨u,h6,g2,o3,c3,h7,h8,h9⟩:=h5 i hi;exact ⟨u,h6,g2,o3,c3,h7,Nat.lt_of_lt_of_le h8 hb.size,h9⟩⟩):p:=h
theorem cl79 {p : Prop} (h:p:=by
 go_wp2_with fail;go_ret;exact RetW.mk b51 ((Below.refl _ w).alloc Nr _)):p:=h
theorem cl80 {p : Prop} (h:p:=by
 exact (((Below.refl w.heap.size w).alloc Nr _).cell (p:=⟨b,0,none⟩) hb0).trans hu):p:=h
theorem cl81 {p : Prop} (h:p:=by
 clear e1 e2 hmin;generalize ((min k F1.length:Nat):Int)=mm at *;go_wp2_with fail;go_roundw
 case rel=>exact ⟨k+1,by omega,by go_num,by rw [HMN.out],HB⟩
 case measure=>simp [intOf];omega):p:=h
theorem cl82 {p : Prop} (h:p:=by
 go_wp2_with fail;exact bodyPost_ret (v:=.int .i64 0) b117 rfl ⟨l.x,l.ar,l.hs,rfl,by rw [HZ9.out];exact HM.out.below HX.out.bel,Vk.ofBelow HX.out.bel⟩):p:=h
theorem cl83 {p : Prop} (h:p:=by
 go_wp2_with fail;go_quiet (fail);go_wp2_with fail;go_meet;exact ⟨by simp [hf],Hd (HN.out.below (below_drewN Br nq)),Hd (HX.out.below (below_drewN Br nq))⟩):p:=h
theorem cl84 {p : Prop} (h:p:=by
 have HQ3:=Hd q3;clear q3;rcases q1 with rfl|rfl
 ·go_wp2_with fail;go_meet;exact ⟨by rw [HQ3.out],HO8,HB8⟩
 ·go_wp2_with fail;go_meet;exact ⟨by rw [HQ3.out],HO8,HB8⟩):p:=h
theorem cl107 {p : Prop} (h:p:=by
 refine tk 29 ?_;refine tk 30 ?_;refine wpAnyH_done b12 ?_ _;go_wp2_with fail;go_roundw
 case rel=>exact ⟨k+1,by omega,by go_num,HB3,HT⟩
 case measure=>simp [intOf];omega):p:=h
theorem cl85 {p : Prop} (h:p:=by
 have h4':(k==8)=false:=by simpa using h4
 go_wp2_with fail;go_ret;exact RetW.mk rfl HB.out):p:=h
theorem cl86 {p : Prop} (h:p:=by
 have:lkE s p o.fd 1=4:=by unfold lkE;rw [if_pos (show numE s.d p o.fd≠0 by rw [h1];exact no4),h1]
 rw [this,if_pos no4,if_pos (show numE s.d p o.fd≠0 by rw [h1];exact no4)]):p:=h
theorem cl87 {p : Prop} (h:p:=by
 exact bodyPost_ret (v:=.tuple #[.agg #[.slice y.oa y.o.length y.oc,.slice y.ta y.t.length y.tc],.int .i64 0,.int .i64 2]) b67 rfl HPo.out):p:=h
theorem cl88 {p : Prop} (h:p:=by
 go_enter Tryz.func57,Tryz.ntmps57;go_wp2_with fail;go_ret2;rw [HR.out];exact ⟨rfl,rfl⟩):p:=h
theorem cl89 {p : Prop} (h:p:=by
 obtain ⟨h1,h2,h3⟩:=procV_ok hp;rw [pl_t] at h3;have h4:=check_tab h1 p.toNat b66;exact ⟨h2,h3,h4.1,map_getD x.t p.toNat b10,h4.2⟩):p:=h
theorem cl90 {p : Prop} (h:p:=by
 have:=rightB_iff.1 (check_right hc j hj).1;exact ⟨this.1,this.2.1,this.2.2.1⟩):p:=h
theorem cl91 {p : Prop} (h:p:=by
 split at hd
 ·exact absurd hd (Nat.lt_irrefl 0)
 ·rename_i h1;rw [if_neg h1];split at hd
  ·exact absurd hd (Nat.lt_irrefl 0)
  ·rename_i h2;rw [if_neg h2]):p:=h
theorem cl92 {p : Prop} (h:p:=by
 go_wp2_with (go_at_call 16;refine (HS9.out _ Br).mono ?_;rintro e w7 ⟨rfl,hb⟩;have HLx:=Hd (HLw.out.below hb))
 go_meet;exact ⟨rfl,HLx⟩):p:=h
theorem cl93 {p : Prop} (h:p:=by
 go_wp2_with fail;go_ret2;exact RetW.mk (by rw [HE2.out,HN2.out];try rfl) HB.out):p:=h
theorem cl94 {p : Prop} (h:p:=by
 go_wp2_with fail;go_quiet (fail);go_wp2_with fail;go_meet;exact ⟨by simp [h1,h2],Hd (HX.out.below (below_drewN Br nq))⟩):p:=h
theorem cl95 {p : Prop} (h:p:=by
 go_wp2_with fail;go_quiet (fail);go_wp2_with fail;go_meet;exact ⟨by simp [hcu],rfl,Hd (below_drewN Br nq)⟩):p:=h
theorem cl108 {p : Prop} (h:p:=by
 refine tk 30 ?_;refine wpAnyH_done b12 ?_ _;go_wp2_with fail;go_ret;exact RetW.mk (by rw [HV.out,hF];rfl) HB3.out):p:=h
theorem cl96 {p : Prop} (h:p:=by
 go_wp2_with fail;go_quiet (fail);go_wp2_with fail;go_meet;exact ⟨by simp,rfl,Hd (below_drewN Br nq)⟩):p:=h
theorem cl97 {p : Prop} (h:p:=by
 go_wp2_with fail;go_roundw
 case rel=>exact ⟨k+1,by omega,by go_num,HV,HB⟩
 case measure=>simp [intOf];omega):p:=h
theorem cl98 {p : Prop} (h:p:=by
 go_wp2_with fail;go_roundw
 case rel=>exact ⟨i+1,by omega,by go_num,HB58⟩
 case measure=>simp [intOf];omega):p:=h
theorem cl99 {p : Prop} (h:p:=by
 have h1:=HFR.out.wk.own.t;have h2:=HFR.out.wk.own.o;rw [c1] at h1;rw [b1] at h2;exact own_ne h1 h2 b14):p:=h
theorem cl100 {p : Prop} (h:p:=by
 have HV:=Hd (HIk.out rfl);go_wp2_with fail;go_ret;exact RetW.mk b24 HBZ.out):p:=h
theorem cl101 {p : Prop} (h:p:=by
 go_quiet (fail);go_wp2_with fail;go_ret;exact RetW.mk b24 (below_drewN HBX.out _)):p:=h
theorem cl102 {p : Prop} (h:p:=by
 intro j u hj;rw [Addr.add_lit,Nat.zero_add];exact cell_snd _ _ _ _ _ (by simpa using hj)):p:=h
theorem cm0 {p : Prop} (h:p:=by
 obtain ⟨hrd,f,hf,hfn⟩:=HLZ.out rfl;have HFI:Hid (D.fi=(f:Int)):=Hd hf;have HRD:=Hd hrd;clear HLZ hrd;try rw [hf] at HE
 try rw [Int.toNat_natCast] at HE
 clear hf;have hsd:(s.fs.getD f ⟨#[]⟩).size≤128:=HOR.out.get f;have HFC:=Hd (fs_at s.fs f hfn);go_upto_region 4 with (fail)
 go_cut [12,13] from 50 to 57 (fun s12 s13 wx=>s12=.bool (!(andV D.fl 1==0))∧s13=.bool (!(andV D.fl 2==0))∧Hid (Lc true q B W wx l {l with ex:=W.heap.size::(W.heap.size+1)::Kb::l.ex} s Kb cs [.int .i64 0,.int .i64 0,.string ⟨#[]⟩] [.int .i64 D.fi,.int .i64 D.fl,.int .i64 D.f,.int .i64 D.cu,.int .i64 D.rf]))
 case first=>as_aux_lemma=>
  exact cl17
 case rest=>
 obtain ⟨rfl,rfl,HL2⟩:=hcut;replace HL:=HL2;clear HL2;generalize hrb:(!(andV D.fl 1==0))=rb at *;have HRB:=Hd hrb;generalize hwb:(!(andV D.fl 2==0))=wb at *;have HWB:=Hd hwb;clear hrb hwb;generalize s.fs.getD f ⟨#[]⟩=sd at *;have hfI:(f:Int)<(s.fs.length:Int):=b10;have hqF:(s.fs.length:Int)≤(q.f:Int):=by have:=HL.out.m.cf;omega
 have hnI:(s.fs.length:Int)≤1000:=by have:=HOK.out.nf;omega
 go_upto_region 5 with (fail)
 go_cut [14] from 58 to 65 (fun s14 wx=>s14=.string sd∧Hid (Lc true q B W wx l {l with ex:=W.heap.size::(W.heap.size+1)::Kb::l.ex} s Kb cs [.int .i64 0,.int .i64 0,.string ⟨#[]⟩] [.int .i64 D.fi,.int .i64 D.fl,.int .i64 D.f,.int .i64 D.cu,.int .i64 D.rf]))
 case first=>as_aux_lemma=>
  have k0:=HL.out.k.cell 0 (.int .i64 (f:Int)) b18;exact cl7
 case rest=>
 obtain ⟨rfl,HL2⟩:=hcut;replace HL:=HL2;clear HL2;exact km0):p:=h
theorem cm1 {p : Prop} (h:p:=by
 go_wp2_with fail;refine (bad_any le _).mono ?_;rintro e w5 ⟨rfl,hb⟩;replace HX:=Hd (HX.out.below hb);clear hb;obtain ⟨_,⟨r0,r1,r2,r3⟩,rh⟩:=At.four HX.out.r;obtain ⟨rc0,rc1,rc2,rc3⟩:=(At.four HX.out.r).1;go_wp2_with fail;generalize hwB:(((w5.setCell ⟨W.heap.size+1,0,none⟩ (.int .i64 le)).setCell ⟨W.heap.size+1,1,none⟩ (.int .i64 0)).setCell ⟨W.heap.size+1,2,none⟩ (.string ⟨#[]⟩)).setCell ⟨W.heap.size+1,3,none⟩ (.nilFunc)=w9 at *;have HP:Bx2 W w9 W.heap.size (W.heap.size+1) cs [.int .i64 le,.int .i64 0,.string ⟨#[]⟩,.nilFunc]:=by rw [←hwB];exact HX.out.putR [.int .i64 le,.int .i64 0,.string ⟨#[]⟩,.nilFunc] rfl
 skip
 clear r0 r1 r2 r3 rc0 rc1 rc2 rc3;obtain ⟨⟨q0,q1,q2,q3⟩,_,_⟩:=At.four HP.r;exact km1):p:=h
theorem cm2 {p : Prop} (h:p:=by
 go_wp2_with fail;have HB1:Hid (Below W.heap.size W ((W.alloc (.cells #[.slice a0 len0 cap0,.int .i64 0] 25)).alloc (.cells #[.int .i64 0,.int .i64 0,.int .i64 0,.int .i64 1] 27))):=Hd ((Br.alloc Nr _).alloc b37 _);have htp:=HT.out.below (Br.alloc Nr (.cells #[.int .i64 0,.int .i64 0,.int .i64 0,.int .i64 1] 27)) HT.out.hi;generalize World.alloc (World.alloc W (.cells #[.slice a0 len0 cap0,.int .i64 0] 25)) (.cells #[.int .i64 0,.int .i64 0,.int .i64 0,.int .i64 1] 27)=w1 at *;refine (scripts_any W w1 _ _ _ _ htp).mono ?_;rintro e w2 ⟨scr,sa,scp,rfl,hns,hsc,hop,htp2,htk⟩;have HOPS:=Hd hop;have HNS:=Hd hns;have HSC:=Hd hsc;have HTK:=Hd htk;clear hop hns hsc htk htp2 htp HT;go_wp2_with (with_reducible refine Des.hold_store 44 rfl ?_)
 refine Des.store_ato 0 (n:=21) (cfgC (.slice (some ⟨W.heap.size+1,0,none⟩) 2 2) (.slice sa scr.length scp)) (At.new w2 [.slice none 0 0,.slice none 0 0,.int .i64 0,.int .i64 0,.int .i64 0,.int .i64 0,.int .i64 0,.int .i64 0,.int .i64 0,.int .i64 0,.slice none 0 0,.slice none 0 0,.int .i64 0,.int .i64 0,.slice none 0 0,.slice none 0 0,.slice none 0 0,.int .i64 0,.int .i64 0,.slice none 0 0,.slice none 0 0] 44).t rfl size44 (by simp [cfgC,Value.oneCell']) rfl rfl rfl rfl ?_;intro w3 hw3;have HPF:=Hd (pro_facts (cap1:=cap1) HB1.out HTK.out HSC.out (cf:=(cfgC (.slice (some ⟨W.heap.size+1,0,none⟩) 2 2) (.slice sa scr.length scp))) (zs:=[.slice none 0 0,.slice none 0 0,.int .i64 0,.int .i64 0,.int .i64 0,.int .i64 0,.int .i64 0,.int .i64 0,.int .i64 0,.int .i64 0,.slice none 0 0,.slice none 0 0,.int .i64 0,.int .i64 0,.slice none 0 0,.slice none 0 0,.slice none 0 0,.int .i64 0,.int .i64 0,.slice none 0 0,.slice none 0 0]) rfl hw3 HA1.out HL1.out);have HS3:Hid (w3.heap.size=w2.heap.size+1):=Hd (by rw [hw3,Des.size_cells,Des.alloc_size]);have HWK:Hid (W.heap.size≤w2.heap.size):=Hd (Nat.le_trans HB1.out.size HTK.out.size);clear hw3 HSC HTK HB1 HA1 HL1;go_upto_region 4 with (fail)
 have HS4:Hid ((World.alloc w3 (Obj.cells #[.slice a1 len1 cap1,.int .i64 0] 25)).heap.size=w3.heap.size+1):=Hd (Des.alloc_size _ _);generalize World.alloc w3 (Obj.cells #[.slice a1 len1 cap1,.int .i64 0] 25)=w4 at *;exact km2):p:=h
theorem cm3 {p : Prop} (h:p:=by
 obtain ⟨W0,hW0⟩:∃W0,W0=(w.alloc (Obj.cells #[.slice x.oa x.o.length x.oc,.slice x.ta x.t.length x.tc] 83)).alloc (Obj.cells #[.slice none 0 0,.slice none 0 0] 83):=⟨_,rfl⟩
 have hb0:Below w.heap.size w W0:=by rw [hW0];exact ((Below.refl _ w).alloc Nr _).alloc b11 _
 have hs0:W0.heap.size=w.heap.size+2:=by rw [hW0];simp
 have hr0:At W0 (w.heap.size+1) [.slice none 0 0,.slice none 0 0]:=by rw [hW0];exact (At.new (w.alloc (Obj.cells #[.slice x.oa x.o.length x.oc,.slice x.ta x.t.length x.tc] 83)) [.slice none 0 0,.slice none 0 0] 83).cast b11
 have hp0:W0.cell? ⟨w.heap.size,0,none⟩=some (.slice x.oa x.o.length x.oc):=by rw [hW0];simp
 have hp1:W0.cell? ⟨w.heap.size,1,none⟩=some (.slice x.ta x.t.length x.tc):=by rw [hW0];simp
 have HB0:=Hd hb0;have HS0:=Hd hs0;have HR0:=Hd hr0;have HP0:=Hd hp0;have HP1:=Hd hp1;clear hb0 hs0 hr0 h;exact km3):p:=h
theorem cm4 {p : Prop} (h:p:=by
 rintro e w5 ⟨rfl,hb⟩;replace HX:=Hd (HX.out.below hb);clear hb;obtain ⟨_,⟨r0,r1,r2,r3⟩,rh⟩:=At.four HX.out.r;obtain ⟨rc0,rc1,rc2,rc3⟩:=(At.four HX.out.r).1;go_wp2_with fail;exact km4):p:=h
theorem cm5 {p : Prop} (h:p:=by
 have hlt':(k:Int)<(n:Int):=b10;have HYL:Hid (y.t.length=k):=by
  have:=congrArg List.length HY.out.2;rwa [List.length_map,List.length_replicate] at this
 have hmk:∀W:World,(Instr.makeSlice 22 (.int .i64 16) (.int .i64 16)).run Tryz.prog W=.ok (.slice (some ⟨W.heap.size,0,none⟩) 16 16) (W.alloc (.cells (ints (List.replicate 16 0)).toArray 3)):=fun W=>by
  have:=make_run 16 b10 W;rw [made_ints] at this;exact this
 obtain ⟨Zc,hZc⟩:∃Zc,Zc=(ints (List.replicate 16 0)).toArray:=⟨_,rfl⟩
 rw [←hZc] at hmk;have hh3:(wr.drew.alloc (Obj.cells Zc 3)).heap[wr.heap.size]? =some (.cells (ints (List.replicate 16 0)).toArray 3 (0,0)):=by rw [←hZc];exact Go.heap_alloc_new wr.drew _
 have hwlt:w.heap.size+1≤wr.heap.size:=by have:=HW.out.lo;omega
 have hown1:=own_whole (B:=w.heap.size+1) (n:=16) hh3 hwlt rfl b10;have hb3:Below wr.heap.size wr (wr.drew.alloc (Obj.cells Zc 3)):=((Below.refl _ wr).drew).alloc Nr _;have hs3:(wr.drew.alloc (Obj.cells Zc 3)).heap.size=wr.heap.size+1:=alloc_size wr.drew _;obtain ⟨w3,hw3⟩:∃w3,w3=wr.drew.alloc (Obj.cells Zc 3):=⟨_,rfl⟩
 rw [←hw3] at hh3 hown1 hb3 hs3;have hW3:Wk (w.heap.size+1) w3 (w.heap.size+1) y:=HW.out.below hb3;obtain ⟨yn,hyn⟩:∃yn:Tb,yn=⟨some ⟨wr.heap.size,0,none⟩,16,List.replicate 16 0⟩:=⟨_,rfl⟩
 have hb4:Below w3.heap.size w3 (w3.alloc (Obj.cells #[Value.slice (some ⟨wr.heap.size,0,none⟩) 16 16] 22)):=Br.alloc Nr _;have hc4:(w3.alloc (Obj.cells #[Value.slice (some ⟨wr.heap.size,0,none⟩) 16 16] 22)).cell? ⟨w3.heap.size,0,none⟩=some yn.val:=by rw [hyn];simp [Tb.val]
 have hW4k:Wk (w.heap.size+1) (w3.alloc (Obj.cells #[Value.slice (some ⟨wr.heap.size,0,none⟩) 16 16] 22)) (w.heap.size+1) y:=hW3.below hb4;have hlt4:w.heap.size+1≤(w3.alloc (Obj.cells #[Value.slice (some ⟨wr.heap.size,0,none⟩) 16 16] 22)).heap.size:=by have:=hb4.size;omega
 obtain ⟨aN, cN, wN, hrun, hown, hbox, hbN⟩ := append_tab _ (w.heap.size + 1) (w.heap.size + 1) y yn w3.heap.size hW4k hc4 (by rw [hyn]; exact ownsRow_below hown1 hb4) (by
  intro z hz p q hp hq;rw [hyn] at hq;cases hq;have h2:=(HW.out.own.e z hz).lt p.block (by unfold Tb.val;rw [hp];rfl);show p.block≠wr.heap.size;omega) (by have:=HYL.out;omega) hlt4
 have HAP:=Hd hrun;have HWN:Hid (Wk (w.heap.size+1) (wN.setCell ⟨w.heap.size+1,1,none⟩ (.slice aN (y.t.length+1) cN)) (w.heap.size+1) ⟨y.oa,y.oc,y.o,aN,cN,y.t++[yn]⟩):=Wk.boxT hown hbox Nr b11;have hbW:Below (w.heap.size+1) wr (wN.setCell ⟨w.heap.size+1,1,none⟩ (.slice aN (y.t.length+1) cN)):=(((hb3.mono hwlt).trans (hb4.mono b10)).trans hbN).setCell (p:=⟨w.heap.size+1,1,none⟩) Nr _;have HBN:Hid (Below w.heap.size w (wN.setCell ⟨w.heap.size+1,1,none⟩ (.slice aN (y.t.length+1) cN))):=HB.out.trans (hbW.mono (Nat.le_succ _));have HRN:Hid (At (wN.setCell ⟨w.heap.size+1,1,none⟩ (.slice aN (y.t.length+1) cN)) w.heap.size [.slice none 0 0,.slice none 0 0]):=HR.out.below hbW (Nat.lt_succ_self _);have HYN:Hid ((y.t++[yn]).map Tb.l=List.replicate (k+1) (List.replicate 16 0)):=by
  rw [Hid,List.map_append,HY.out.2,List.replicate_succ' (n:=k),hyn];rfl
 obtain ⟨z0,z1,z2,z3,z4⟩:=hbox.cc;obtain ⟨u0,u1,u2,u3,u4⟩:=hW3.box.cc;clear hrun hown hbox hbN hown1 hW3 hW4k hc4 hb4 hb3 hh3 hbW hs3;rw [hw3] at HAP u0 u1 u2 u3 u4;rw [show (wr.drew.alloc (Obj.cells Zc 3)).heap.size=wr.heap.size+1 from alloc_size wr.drew _] at HAP;clear hw3 hZc;have hx5:w.heap.size<wr.heap.size:=b10;go_wp2_with fail;exact km5):p:=h
theorem cm6 {p : Prop} (h:p:=by
 have HX:=Hd (Bx2.start W o.cells [.int .i64 0,.int .i64 0,.string ⟨#[]⟩] 66 62);have hov:opVal o=.agg o.cells.toArray:=rfl;rw [hov];obtain ⟨cs,hcs⟩:∃cs,cs=o.cells:=⟨_,rfl⟩
 have HCS:=Hd hcs;have HKD:=Hd hkd;rw [←hcs] at HX ⊢;exact km6):p:=h
theorem cm7 {p : Prop} (h:p:=by
 obtain ⟨W0,hW0⟩:∃W0,W0=((w.alloc (Obj.cells #[.slice x.oa x.o.length x.oc,.slice x.ta x.t.length x.tc] 83)).alloc (Obj.cells #[.int .i64 fi,.int .i64 fl,.int .i64 f,.int .i64 c,.int .i64 rf] 126)).alloc (Obj.cells #[.slice none 0 0,.slice none 0 0] 83):=⟨_,rfl⟩
 have hb0:Below w.heap.size w W0:=by rw [hW0];exact (((Below.refl _ w).alloc Nr _).alloc b11 _).alloc b16 _
 have hs0:W0.heap.size=w.heap.size+3:=by rw [hW0];simp
 have hr0:At W0 (w.heap.size+2) [.slice none 0 0,.slice none 0 0]:=by rw [hW0];exact (At.new ((w.alloc (Obj.cells #[.slice x.oa x.o.length x.oc,.slice x.ta x.t.length x.tc] 83)).alloc (Obj.cells #[.int .i64 fi,.int .i64 fl,.int .i64 f,.int .i64 c,.int .i64 rf] 126)) [.slice none 0 0,.slice none 0 0] 83).cast b11
 have hp0:W0.cell? ⟨w.heap.size,0,none⟩=some (.slice x.oa x.o.length x.oc):=by rw [hW0,World.cell?_alloc_lt _ _ _ (by rw [alloc_size,alloc_size];show w.heap.size< _;omega),World.cell?_alloc_lt _ _ _ (by rw [alloc_size];show w.heap.size< _;omega)];simp
 have hp1:W0.cell? ⟨w.heap.size,1,none⟩=some (.slice x.ta x.t.length x.tc):=by rw [hW0,World.cell?_alloc_lt _ _ _ (by rw [alloc_size,alloc_size];show w.heap.size< _;omega),World.cell?_alloc_lt _ _ _ (by rw [alloc_size];show w.heap.size< _;omega)];simp
 have hx0:DCel W0 (w.heap.size+1) 0 ⟨fi,fl,f,c,rf⟩:=by
  exact cl72
 have HXC:Hid (∀W,Below W0.heap.size W0 W→DCel W (w.heap.size+1) 0 ⟨fi,fl,f,c,rf⟩):=fun W hb=>hx0.below hb (by rw [hs0];omega);have HB0:=Hd hb0;have HS0:=Hd hs0;have HR0:=Hd hr0;have HP0:=Hd hp0;have HP1:=Hd hp1;clear hb0 hs0 hr0 h hx0;generalize OutP w x (updD x.pl n f c) (fun v=>.tuple #[v,.int .i64 (updE x.pl n f c)])=Post at *;generalize updD x.pl n f c=od at *;generalize updE x.pl n f c=oe at *;generalize checkV x.pl=cv at *;unfold dVal;exact km7):p:=h
theorem cm8 {p : Prop} (h:p:=by
 obtain rfl:k=t.length:=b10;have htt:(t.map Tb.l).take t.length=t.map Tb.l:=List.take_of_length_le b11;have HY2:Hid (y.o=o∧y.t.map Tb.l=t.map Tb.l):=⟨HY.out.1,by rw [HY.out.2,htt]⟩
 have hA:=HA0.out.below HB.out b10;unfold Z2 at hA;obtain ⟨r0,r1,r2,r3,r4⟩:=hA.two;have hA5:=(hA.set 0 (.slice y.oa y.o.length y.oc)).set 1 (.slice y.ta y.t.length y.tc);have hneO:w.heap.size+1≠O:=by have:=HW.out.lo;omega
 have tyR:∀q e size n v xs,wr.ownsRow (w.heap.size+2) e size v n xs→v.ownBlock=some q→q≠w.heap.size+1:=fun q e size n v xs h hq=>by have:=(h.lt q hq).1;omega
 have hD5:DOwn w.heap.size ((wr.setCell ⟨w.heap.size+1,0,none⟩ (.slice y.oa y.o.length y.oc)).setCell ⟨w.heap.size+1,1,none⟩ (.slice y.ta y.t.length y.tc)) y:=by
  exact cl40
 have hB5:Below w.heap.size w ((wr.setCell ⟨w.heap.size+1,0,none⟩ (.slice y.oa y.o.length y.oc)).setCell ⟨w.heap.size+1,1,none⟩ (.slice y.ta y.t.length y.tc)):=(HBW.out.setCell (p:=⟨w.heap.size+1,0,none⟩) b11 _).setCell (p:=⟨w.heap.size+1,1,none⟩) b11 _;have hPo:=HP.out y _ HY2.out.1 HY2.out.2 hD5 hB5;have HPo:=Hd hPo;simp only [List.set_cons_zero,List.set_cons_succ] at hA5;have e0:=hA5.cell 0 _ rfl;have e1:=hA5.cell 1 _ rfl;clear hPo hD5 hB5 hA5 hA HW HP tyR htt HY HY2;unfold dVal at HPo;go_wp2_with fail;generalize ((wr.setCell ⟨w.heap.size+1,0,none⟩ (.slice y.oa y.o.length y.oc)).setCell ⟨w.heap.size+1,1,none⟩ (.slice y.ta y.t.length y.tc))=w9 at *;exact km8):p:=h
theorem cm9 {p : Prop} (h:p:=by
 obtain ⟨e0,e1,e2,e3,e4,e5,e6,e7,e8⟩:wr.cell? ⟨g,o+k*9,none⟩=some (.int .i64 x.tm)∧wr.cell? ⟨g,o+k*9+1,none⟩=some (.int .i64 x.pr)∧wr.cell? ⟨g,o+k*9+2,none⟩=some (.int .i64 x.ix)∧wr.cell? ⟨g,o+k*9+3,none⟩=some (.int .i64 x.fi)∧wr.cell? ⟨g,o+k*9+4,none⟩=some (.int .i64 x.at')∧wr.cell? ⟨g,o+k*9+5,none⟩=some (.int .i64 x.bg)∧wr.cell? ⟨g,o+k*9+6,none⟩=some (.int .i64 x.er)∧wr.cell? ⟨g,o+k*9+7,none⟩=some (.int .i64 x.n)∧wr.cell? ⟨g,o+k*9+8,none⟩=some (.string x.dat):=⟨HC.out 0 _ rfl,HC.out 1 _ rfl,HC.out 2 _ rfl,HC.out 3 _ rfl,HC.out 4 _ rfl,HC.out 5 _ rfl,HC.out 6 _ rfl,HC.out 7 _ rfl,HC.out 8 _ rfl⟩
 exact km9):p:=h
theorem cm10 {p : Prop} (h:p:=by
 have HM:=Hd h;have HX:=Hd (Bx2.start W o.cells [.int .i64 0,.int .i64 0,.string ⟨#[]⟩] 66 62);have hov:opVal o=.agg o.cells.toArray:=rfl;have hsz:(Tryz.prog.info? 66).map (·.size)=some o.cells.length:=size66;rw [hov] at hc ⊢;have HC:=Hd hc;obtain ⟨cs,hcs⟩:∃cs,cs=o.cells:=⟨_,rfl⟩
 have HCS:=Hd hcs;rw [←hcs] at HX hsz HC ⊢;clear hcs hov h hc;go_enter Tryz.func22,Tryz.ntmps22;go_upto_region 1 with (fail)
 generalize World.alloc _ (Obj.cells #[.int .i64 0,.int .i64 0,.string ⟨#[]⟩] 62)=W1 at *;have t0:=HX.out.t.cell 0 (.int .i64 o.kd) b13;exact km10):p:=h
theorem cm11 {p : Prop} (h:p:=by
 have t0:=hT.cell 0 (.pointer (some ⟨l.M,0,none⟩)) rfl;have x0:=hX.cell 0 (.slice y.oa y.o.length y.oc) rfl;have x1:=hX.cell 1 (.slice y.ta y.t.length y.tc) rfl;obtain ⟨mO,mP⟩:=h.cO;have z0:=h.m.free 24 b27;have z1:=h.m.free 25 b27;have z2:=h.m.hi;have HP:=Hd (h.putO y hy);have HV:Hid (Vk (vs l) W ((W.setCell ⟨l.M,24,none⟩ (.slice y.oa y.o.length y.oc)).setCell ⟨l.M,25,none⟩ (.slice y.ta y.t.length y.tc))):=Hd ((Vk.set _ _ _ _ (mvs l).1).trans (Vk.set _ _ _ _ (mvs l).1));clear h hT hX hy;exact km11):p:=h
theorem cm12 {p : Prop} (h:p:=by
 generalize (if andV (Des.lookV s.d p o.fd).fl 4≠0∧¬o.dat.size=0 then ((s.fs.getD (Des.lookV s.d p o.fd).fi.toNat ⟨#[]⟩).size:Int) else (Des.lookV s.d p o.fd).f)=q;exact km12):p:=h
theorem cm13 {p : Prop} (h:p:=by
 generalize begS scr n lst=s0 at *;have HE:=Hd (At.new W (cfgC (.slice pa n pc) (.slice sa scr.length scp)) 44);have HBW:Hid (Below W.heap.size W (W.alloc (.cells (cfgC (.slice pa n pc) (.slice sa scr.length scp)).toArray 44))):=Hd (Br.alloc Nr _);have hsz44:(Tryz.prog.info? 44).map (·.size)=some (cfgC (.slice pa n pc) (.slice sa scr.length scp)).length:=size44;generalize cfgC (.slice pa n pc) (.slice sa scr.length scp)=cf at *;exact km13):p:=h
theorem cm14 {p : Prop} (h:p:=by
 have h':=h.below Br.drew;have t0:=(Des.At.drew hT).cell 0 (.pointer (some ⟨l.M,0,none⟩)) rfl;have t1:=(Des.At.drew hT).cell 1 (.int .i64 (p:Int)) rfl;have x0:=(Des.At.drew hX).cell 0 (.slice a L.length c) rfl;have mR:=h'.cR;have hpI:(p:Int)<(s.scr.length:Int):=b10;have hnI:(s.scr.length:Int)≤1000:=b10;have z0:=h'.r.free p (by rw [slC_len];exact hp);have z1:=h'.r.cell p _ (slC_at l.ar s.ar p hp);have z2:=h'.r.hi;have HP:=Hd (h'.putR p hp a c L (arow_keep hs Nr (fun _ _=>rfl)) ho);have HV:Hid (Vk (vs l) W (W.drew.setCell ⟨l.R,p,none⟩ (.slice a L.length c))):=Hd ((Vk.ofBelow Br.drew).trans (Vk.set _ _ _ _ (mvs l).2.2.2.2.1));generalize (l.ar.getD p Sl.nil).a=za at z1;generalize (s.ar.getD p []).length=zl at z1;generalize (l.ar.getD p Sl.nil).c=zc at z1;clear h h' hT hX hs ho hp hps hn;exact km14):p:=h
theorem cm15 {p : Prop} (h:p:=by
 have hv:=HN.out hcv;have z0:=HZ.out.c0;have z1:=HZ.out.c1;have z2:=HZ.out.c2;have z3:=HZ.out.c3;have z4:=HZ.out.c4;have y0:=HZ.out.f 0 b10;have y1:=HZ.out.f 1 b10;have y2:=HZ.out.f 2 b10;have y3:=HZ.out.f 3 b10;have y4:=HZ.out.f 4 b10;simp only at z0 z1 z2 z3 z4;go_wp2_with fail;have HD:=HZ.out.put 0 0 0 0 false;have HBD:=HB.out.trans (put5w_below (B:=w.heap.size) w2 w.heap.size 0 0 0 0 false Nr);unfold put5w at HD HBD;generalize (((((w2.setCell {block:=w.heap.size,off:=0} (Value.int IntKind.i64 0)).setCell {block:=w.heap.size,off:=1} (Value.int IntKind.i64 0)).setCell {block:=w.heap.size,off:=2} (Value.int IntKind.i64 0)).setCell {block:=w.heap.size,off:=3} (Value.int IntKind.i64 0)).setCell {block:=w.heap.size,off:=4} (Value.bool false))=W9 at *;exact km15):p:=h
theorem cm16 {p : Prop} (h:p:=by
 have hw5:=HAA.out.store [.int .i64 fi,.int .i64 fl,.int .i64 ff,.int .i64 cu,.int .i64 rf] rfl;have hb5:Below w.heap.size w (w2.setCells (w.heap.size+1) 0 [.int .i64 fi,.int .i64 fl,.int .i64 ff,.int .i64 cu,.int .i64 rf]):=below_cells b10 _ _ HB.out;simp only [World.setCells] at hw5 hb5;have hw6:=hw5.drew;have hb6:=hb5.drew;clear hw5 hb5;go_wp2_with fail;go_region;generalize (((((w2.setCell {block:=w.heap.size+1,off:=0} (Value.int IntKind.i64 fi)).setCell {block:=w.heap.size+1,off:=1} (Value.int IntKind.i64 fl)).setCell {block:=w.heap.size+1,off:=2} (Value.int IntKind.i64 ff)).setCell {block:=w.heap.size+1,off:=3} (Value.int IntKind.i64 cu)).setCell {block:=w.heap.size+1,off:=4} (Value.int IntKind.i64 rf)).drew=w5 at *;obtain ⟨⟨d0,d1,d2,d3,d4⟩,_,_⟩:=hw6.five;go_wp2_with fail;exact km16):p:=h
theorem cm17 {p : Prop} (h:p:=by
 go_wp2_with fail;have H0:=Hd (Hst.start w (.slice a l.length cap) q);generalize (w.alloc (Obj.cells #[.slice a l.length cap,.int .i64 q] 57)).alloc (Obj.cells #[.slice none 0 0,.int .i64 0] 57)=W0 at *;have p0:=H0.out.p0;have p1:=H0.out.p1;have plt:w.heap.size<W0.heap.size:=Nat.lt_of_lt_of_le b10 H0.out.lt;have plt2:w.heap.size+1<W0.heap.size:=Nat.lt_of_lt_of_le b10 H0.out.lt;exact km17):p:=h
theorem cm18 {p : Prop} (h:p:=by
 go_wp2_with fail;have hA:=DCel.new wr ⟨fi,fl,f,cu,rf⟩;simp only at hA;have HB2:Hid (Below w2.heap.size w2 (wr.alloc (Obj.cells #[Value.int IntKind.i64 fi,Value.int IntKind.i64 fl,Value.int IntKind.i64 f,Value.int IntKind.i64 cu,Value.int IntKind.i64 rf] 126))):=HW.out.alloc HW.out.size _;have hsA:wr.heap.size<(wr.alloc (Obj.cells #[Value.int IntKind.i64 fi,Value.int IntKind.i64 fl,Value.int IntKind.i64 f,Value.int IntKind.i64 cu,Value.int IntKind.i64 rf] 126)).heap.size:=b11;exact km18):p:=h
theorem cm19 {p : Prop} (h:p:=by
 have HR:Hid (checkV l=true→∀j,j<l.length→rightB (l.getD j Ar.zero)=true):=fun hc j hj=>(check_right hc j hj).1;have HV1:Hid (checkV l=false→unmapV l s n=(l,1)):=fun hc=>by unfold unmapV;rw [if_pos hc]
 have HV2:Hid (checkV l=true→withinB s n 64=false→unmapV l s n=(l,2)):=fun hc hw=>by unfold unmapV;rw [if_neg b40,if_pos hw]
 exact km19):p:=h
theorem cm20 {p : Prop} (h:p:=by
 have HOK:=Hd ok;have HOR:=Hd okr;clear ok okr h;go_enter Tryz.func35,Tryz.ntmps35;go_upto_region 1 with (fail)
 generalize World.alloc _ (Obj.cells #[.int .i64 0,.int .i64 0,.string ⟨#[]⟩] 62)=W1 at *;have HR1:Hid (W.heap.size+1<W1.heap.size):=Hd HX.out.r.hi;go_cut [9,10,11] from 35 to 46 (fun s9 s10 s11 wx=>∃Kb:Nat,s9=.int .i64 nv∧s10=.pointer (some ⟨Kb,0,none⟩)∧s11=.int .i64 le∧Hid (Nb W1 wx Kb [.int .i64 D.fi,.int .i64 D.fl,.int .i64 D.f,.int .i64 D.cu,.int .i64 D.rf]))
 case first=>as_aux_lemma=>
  exact cl0
 case rest=>
 obtain ⟨Kb,rfl,rfl,rfl,HN⟩:=hcut;have HL:=Hd (Lc.start HM.out HX.out HN.out);have HKb:Hid (W.heap.size+1<Kb):=Hd HL.out.lo;clear HX HN HLK HM;exact km20):p:=h
theorem cm21 {p : Prop} (h:p:=by
 go_upto_region 1 with (fail)
 generalize World.alloc _ (Obj.cells #[.int .i64 0,.int .i64 0,.string ⟨#[]⟩,.nilFunc] 114)=W0 at *;have hmf':=Hd hmf;clear hmf;go_wp2_with (with_reducible refine Des.hold_load 122 rfl ?_)
 refine Des.load_ato 0 HX.out.t.r Tryz.underlying122 rfl b28 rfl rfl rfl ?_;go_wp2_with fail;refine (HLK.out _ HX.out.bel).mono ?_;rintro e w1 ⟨rfl,hb⟩;replace HX:=Hd (HX.out.below hb);clear hb HLK;have HNK:=Hd (two_new w1 [.int .i64 nv] 3 [.int .i64 D.fi,.int .i64 D.fl,.int .i64 D.f,.int .i64 D.cu,.int .i64 D.rf] 126);have HR1:Hid (W.heap.size+1<w1.heap.size):=Hd HX.out.r.hi;go_upto_region 2 with (fail)
 generalize ((w1.alloc (Obj.cells #[.int .i64 nv] 3)).alloc (Obj.cells #[.int .i64 D.fi,.int .i64 D.fl,.int .i64 D.f,.int .i64 D.cu,.int .i64 D.rf] 126))=W1 at *;replace HX:=Hd (HX.out.below HNK.out.2.2);have HN:=Hd HNK.out.1;have HK:=Hd HNK.out.2.1;have HKN:Hid (W.heap.size+1<w1.heap.size+1∧W.heap.size+1<w1.heap.size∧w1.heap.size≠w1.heap.size+1):=Hd b52;clear HNK HR1;generalize w1.heap.size+1=K at *;generalize w1.heap.size=N at *;exact km21):p:=h
theorem cm22 {p : Prop} (h:p:=by
 go_upto_region 1 with (fail)
 generalize World.alloc _ (Obj.cells #[.int .i64 0,.int .i64 0,.string ⟨#[]⟩,.nilFunc] 114)=W0 at *;have hmf':=Hd hmf;clear hmf;go_wp2_with (with_reducible refine Des.hold_load 122 rfl ?_)
 refine Des.load_ato 0 HX.out.t.r Tryz.underlying122 rfl b28 rfl rfl rfl ?_;go_wp2_with fail;exact km22):p:=h
theorem cm23 {p : Prop} (h:p:=by
 have HX0:=HX;replace HX:=Hd (HX.out.below Br.drew);have hT:W.heap.size<W1.heap.size:=HX0.out.t.hi;have hM:l.M<W1.heap.size:=(HM.out.below HX0.out.bel).m.hi;have e1:¬W1.heap.size=W.heap.size:=b10;have e2:¬W.heap.size=W1.heap.size:=b10;have e3:¬W1.heap.size=l.M:=b10;have e4:¬l.M=W1.heap.size:=b10;exact km23):p:=h
theorem cm24 {p : Prop} (h:p:=by
 go_wp2_with fail;rw [←hW0];refine (HC.out W0 HB0.out).mono ?_;rintro e w1 ⟨y,rfl,hpl,hown,hb⟩;have HFR:Hid (Fr w x (w1.alloc (Obj.cells #[.slice y.oa y.o.length y.oc,.slice y.ta y.t.length y.tc] 83)) (w.heap.size+2) (w.heap.size+1) w1.heap.size y):=Fr.start HP0.out HP1.out HR0.out HB0.out (Nat.lt_succ_self _) (Nat.lt_succ_self _) (by rw [HS0.out];exact Nat.le_refl _) hown hb;have HPL:=Hd hpl;have hk0:w1.cell? ⟨w.heap.size,0,none⟩=some (.slice x.oa x.o.length x.oc):=(hb.cell (p:=⟨w.heap.size,0,none⟩) b25).trans hp0;have hk1:w1.cell? ⟨w.heap.size,1,none⟩=some (.slice x.ta x.t.length x.tc):=(hb.cell (p:=⟨w.heap.size,1,none⟩) b25).trans hp1;have hl1:w.heap.size<w1.heap.size:=by have:=hb.size;rw [HS0.out] at this;omega
 have hl2:w.heap.size+2≤w1.heap.size:=by have:=hb.size;rw [HS0.out] at this;omega
 obtain ⟨O,hO⟩:∃O,O=w1.heap.size:=⟨_,rfl⟩
 clear hpl hown hb hW0 HC hp0 hp1 HB0 HS0 HR0 HP0 HP1;go_wp2_with fail;generalize w1.alloc (Obj.cells #[.slice y.oa y.o.length y.oc,.slice y.ta y.t.length y.tc] 83)=w2 at *;rw [←hO] at *;clear hO hk0 hk1;exact km24):p:=h
theorem cm25 {p : Prop} (h:p:=by
 obtain ⟨v,hv⟩:∃v:Nat,o.off=(v:Int):=⟨o.off.toNat,by omega⟩
 have e1:adA s p o=Ara.optA (Ara.findV (s.ar.getD p []) ((v/16:Nat):Int)):=by unfold adA;rw [if_neg hneg,hv,Int.toNat_natCast]
 have e2:adN s p o=((adA s p o).pg+((v/16:Nat):Int)-(adA s p o).st)*16+((v%16:Nat):Int):=by unfold adN;rw [if_neg hneg,hv,Int.toNat_natCast]
 have e3:adB s p o=(Ara.findV (s.ar.getD p []) ((v/16:Nat):Int)).isSome:=by unfold adB;rw [if_neg hneg,hv,Int.toNat_natCast]
 have HAT:=Hd e2;have HOF:=Hd hv;obtain ⟨b1,b2,b3,b4⟩:=Ara.find_bound (l:=s.ar.getD p []) (p:=((v/16:Nat):Int));replace HC:=Hd (HC.out ((v/16:Nat):Int));rw [←e1,←e3] at HC;rw [←e1] at b1 b2 b3 b4;have hv1:v≤1000000:=b10;clear e1 e2 e3 hneg hv hoff;generalize adA s p o=a at *;generalize adB s p o=fb at *;generalize adN s p o=at' at *;generalize (s.ar.getD p []).length=la at *;have hc1:((v/16:Nat):Int)=(v:Int)/16:=Int.natCast_ediv v 16;have hc2:((v%16:Nat):Int)=(v:Int)%16:=Int.natCast_emod v 16;rw [hc1] at HC HAT;rw [hc2] at HAT;have hq0:0≤(v:Int)/16∧(v:Int)/16≤1000000:=b10;have hr0:0≤(v:Int)%16∧(v:Int)%16<16:=b10;clear hc1 hc2;go_enter Tryz.func34,Tryz.ntmps34;go_upto_region 1 with (fail)
 generalize World.alloc _ (Obj.cells #[.int .i64 0,.int .i64 0,.string ⟨#[]⟩] 62)=W1 at *;have t4:=HX.out.t.cell 4 (.int .i64 (v:Int)) b34;have hv0:¬(v:Int)<0:=b10;go_upto_region 3 with (fail)
 obtain ⟨hq0,hq1⟩:=hq0;obtain ⟨hr0,hr1⟩:=hr0;have HDQ:=Hd hv1;clear t4;have HM1:=Hd (HM.out.below HX.out.bel);have HR1:Hid (W.heap.size+1<W1.heap.size):=Hd HX.out.r.hi;go_cut [9,10] from 19 to 32 (fun s9 s10 wx=>∃Kb:Nat,s9=.pointer (some ⟨Kb,0,none⟩)∧s10=.bool fb∧Hid (Nb W1 wx Kb [.int .i64 a.st,.int .i64 a.cn,.int .i64 a.fi,.int .i64 a.pg,.bool a.wr]))
 case first=>
  exact cl9
 case rest=>
 obtain ⟨Kb,rfl,rfl,HN⟩:=hcut;have HL:=Hd (Lc.start HM.out HX.out HN.out);have HKb:Hid (W.heap.size+1<Kb):=Hd HL.out.lo;clear HX HN HC HR HM HM1;exact km25):p:=h
theorem cm26 {p : Prop} (h:p:=by
 go_wp2_with fail;rw [←hW0];refine (HLK.out W0 HB0.out).mono ?_;rintro e w1 ⟨rfl,hb⟩;have hk0:w1.cell? ⟨w.heap.size,0,none⟩=some (.slice x.oa x.o.length x.oc):=(hb.cell (p:=⟨w.heap.size,0,none⟩) b25).trans hp0;have hk1:w1.cell? ⟨w.heap.size,1,none⟩=some (.slice x.ta x.t.length x.tc):=(hb.cell (p:=⟨w.heap.size,1,none⟩) b25).trans hp1;have HR1:=Hd (HR0.out.below hb b25);have HB1:=Hd (HB0.out.trans (hb.mono HB0.out.size));have hl1:w.heap.size+2≤w1.heap.size:=by have:=hb.size;rw [HS0.out] at this;exact this
 have hl0:w.heap.size<w1.heap.size:=b10;have hl3:w.heap.size+1<w1.heap.size:=b10;clear hb HR0 HB0 HS0 HP0 HP1 hp0 hp1 hW0 HLK
 --the description that was looked up
 have HR2:=Hd (HR1.out.alloc (Obj.cells #[.int .i64 d0,.int .i64 d1,.int .i64 d2,.int .i64 d3,.int .i64 d4] 126));have HB2:=Hd (HB1.out.alloc b10 (Obj.cells #[.int .i64 d0,.int .i64 d1,.int .i64 d2,.int .i64 d3,.int .i64 d4] 126));have k0:(w1.alloc (Obj.cells #[.int .i64 d0,.int .i64 d1,.int .i64 d2,.int .i64 d3,.int .i64 d4] 126)).cell? ⟨w.heap.size,0,none⟩=some (.slice x.oa x.o.length x.oc):=by rw [World.cell?_alloc_lt _ _ _ (by exact hl0)];exact hk0
 have k1:(w1.alloc (Obj.cells #[.int .i64 d0,.int .i64 d1,.int .i64 d2,.int .i64 d3,.int .i64 d4] 126)).cell? ⟨w.heap.size,1,none⟩=some (.slice x.ta x.t.length x.tc):=by rw [World.cell?_alloc_lt _ _ _ (by exact hl0)];exact hk1
 have hl2:w.heap.size+2≤(w1.alloc (Obj.cells #[.int .i64 d0,.int .i64 d1,.int .i64 d2,.int .i64 d3,.int .i64 d4] 126)).heap.size:=by rw [alloc_size];omega
 go_upto_region 2 with (fail)
 generalize w1.alloc (Obj.cells #[.int .i64 d0,.int .i64 d1,.int .i64 d2,.int .i64 d3,.int .i64 d4] 126)=w2 at *;clear hk0 hk1 HR1 HB1 hl1 hl0 hl3;exact km26):p:=h
theorem cm27 {p : Prop} (h:p:=by
 have HR:=Hd h.rows;have HRW:Hid (∀W,Below w.heap.size w W→∀k,k<x.t.length→RowOf W (x.t.getD k Tb.nil).a (x.t.getD k Tb.nil).l.length (x.t.getD k Tb.nil).c (ints (x.t.getD k Tb.nil).l)):=fun W hb k hk=>(h.below hb).tab k hk;have HSE:Hid (∀k,k<x.t.length→(x.t.getD k Tb.nil).l.length≤10000):=fun k hk=>hz.e _ (by rw [getD_get hk];exact List.getElem_mem hk);have HP:Hid (∀(y:Dv) w',y.o=x.o→y.t.map Tb.l=x.t.map Tb.l→DOwn w.heap.size w' y→Below w.heap.size w w'→ClonePost w x.pl (.returned (dVal y)) w'):=fun y w' h1 h2 h3 h4=>⟨y,rfl,De.ext' h1 h2,h3,h4⟩
 have hot:=hz.t;have hoo:=hz.o;clear h hz;generalize ClonePost w x.pl=Post at *;unfold dVal at HP ⊢;obtain ⟨oa,oc,o,ta,tc,t⟩:=x;simp only at HC HR HRW HSE HP hot hoo;obtain ⟨W0,hW0⟩:∃W0,W0=(w.alloc (Obj.cells #[.slice oa o.length oc,.slice ta t.length tc] 83)).alloc (Obj.cells Z2.toArray 83):=⟨_,rfl⟩
 have hb0:Below w.heap.size w W0:=by rw [hW0];exact ((Below.refl _ w).alloc Nr _).alloc b11 _
 have hs0:W0.heap.size=w.heap.size+2:=by rw [hW0];simp
 have hB0:At W0 (w.heap.size+1) Z2:=by rw [hW0];exact (At.new (w.alloc (Obj.cells #[.slice oa o.length oc,.slice ta t.length tc] 83)) Z2 83).cast b11
 have hp0:W0.cell? ⟨w.heap.size,0,none⟩=some (.slice oa o.length oc):=by rw [hW0];simp
 have hp1:W0.cell? ⟨w.heap.size,1,none⟩=some (.slice ta t.length tc):=by rw [hW0];simp
 exact km27):p:=h
theorem cm28 {p : Prop} (h:p:=by
 refine tk 0 ?_;refine tk 1 ?_;refine tk 2 ?_;refine tk 3 ?_;refine tk 4 ?_;refine tk 5 ?_;refine tk 6 ?_;refine tk 7 ?_;refine tk 8 ?_;refine tk 9 ?_;refine tk 10 ?_;exact km28):p:=h
theorem cm29 {p : Prop} (h:p:=by
 have hg8:(y.o.set q ⟨(y.o.getD q Dn.zero).fi,(y.o.getD q Dn.zero).fl,f,(y.o.getD q Dn.zero).cu,(y.o.getD q Dn.zero).rf⟩).getD q Dn.zero=⟨(y.o.getD q Dn.zero).fi,(y.o.getD q Dn.zero).fl,f,(y.o.getD q Dn.zero).cu,(y.o.getD q Dn.zero).rf⟩:=by rw [getD_get (by rw [List.length_set];exact hqy),List.getElem_set_self]
 have HF9:=HF8.out.turn ((Below.refl (w.heap.size+3) _).setCell (p:=⟨g3,q*5+3,none⟩) b6 (.int .i64 c)) (HF8.out.wk.putC b1 q (by show q<(List.set _ _ _).length;rw [List.length_set];exact hqy) 3 b10 (.int .i64 c) ⟨(y.o.getD q Dn.zero).fi,(y.o.getD q Dn.zero).fl,f,c,(y.o.getD q Dn.zero).rf⟩ (by show _=(Dn.cells (List.getD (List.set _ _ _) _ _)).set _ _;rw [hg8];rfl));simp only [List.set_set] at HF9;replace HF9:=Hd (HF9.below Br.drew);have nO:=HFR.out.wk.neO b1;have nX:w.heap.size+1≠g3:=b10;obtain ⟨x0,x1,x2,x3,x4⟩:=HFR.out.wk.box.cc;have hOA:y.oa=some ⟨g3,0,none⟩:=b1;simp only [hOA] at x0;have hqI:(q:Int)<(y.o.length:Int):=b10;have b5q:=b5 (q*5+2);have b5r:=b5 (q*5+3);obtain ⟨s0,s1,s2,s3,s4⟩:=HXC.out _ HH1.out;simp only [Nat.zero_add] at s0 s1 s2 s3 s4;clear b4 b5 hg8 HF8 HFR b1 HOD;generalize (y.o.getD q Dn.zero).f=zf at *;generalize (y.o.getD q Dn.zero).cu=zc at *;go_wp2_with fail;go_region;exact km29):p:=h
theorem cm30 {p : Prop} (h:p:=by
 obtain rfl:k=n:=b10;have hA:=HR.out;obtain ⟨r0,r1,r2,r3,r4⟩:=hA.two;have hA5:=(hA.set 0 (.slice y.oa y.o.length y.oc)).set 1 (.slice y.ta y.t.length y.tc);have hneO:w.heap.size≠w.heap.size+1:=b10;have tyR:∀q e size n v xs,wr.ownsRow (w.heap.size+1) e size v n xs→v.ownBlock=some q→q≠w.heap.size:=fun q e size n v xs h hq=>by have:=(h.lt q hq).1;omega
 have hD5:DOwn w.heap.size ((wr.setCell ⟨w.heap.size,0,none⟩ (.slice y.oa y.o.length y.oc)).setCell ⟨w.heap.size,1,none⟩ (.slice y.ta y.t.length y.tc)) y:=by
  exact cl41
 have hB5:Below w.heap.size w ((wr.setCell ⟨w.heap.size,0,none⟩ (.slice y.oa y.o.length y.oc)).setCell ⟨w.heap.size,1,none⟩ (.slice y.ta y.t.length y.tc)):=(HB.out.setCell (p:=⟨w.heap.size,0,none⟩) Nr _).setCell (p:=⟨w.heap.size,1,none⟩) Nr _;have HPo:=Hd (HP.out y _ (De.ext' HY.out.1 HY.out.2) (hD5.ans Nr) hB5);simp only [List.set_cons_zero,List.set_cons_succ] at hA5;have e0:=hA5.cell 0 _ rfl;have e1:=hA5.cell 1 _ rfl;clear hD5 hB5 hA5 hA HW HP tyR HY;unfold dVal at HPo;go_wp2_with fail;generalize ((wr.setCell ⟨w.heap.size,0,none⟩ (.slice y.oa y.o.length y.oc)).setCell ⟨w.heap.size,1,none⟩ (.slice y.ta y.t.length y.tc))=w9 at *;exact km30):p:=h
theorem cm31 {p : Prop} (h:p:=by
 have HP:Hid (∀(y:Dv) w',y.pl=closeD x.pl p f→DAns w x w' y→Below w.heap.size w w'→OutP w x (closeD x.pl p f) (fun v=>.tuple #[v,.bool (closeG x.pl p f),.int .i64 (numE x.pl p f)]) (.returned (.tuple #[.agg #[.slice y.oa y.o.length y.oc,.slice y.ta y.t.length y.tc],.bool (closeG x.pl p f),.int .i64 (numE x.pl p f)])) w'):=fun y w' h1 h2 h3=>⟨y,rfl,h1,h2,h3⟩
 have HOG:Hid (closeG x.pl p f=(decide (numE x.pl p f=0)&&decide ((x.o.getD (numV x.pl p f).toNat Dn.zero).rf-1≤0))):=rfl;have HOD:Hid (closeD x.pl p f=if numE x.pl p f=0 then ⟨if (x.o.getD (numV x.pl p f).toNat Dn.zero).rf-1≤0 then trim (x.o.set (numV x.pl p f).toNat Dn.zero) else bumpL x.o (numV x.pl p f).toNat (-1),setE x.pl.t p.toNat f.toNat 0⟩ else x.pl):=rfl;have HTB:Hid (numE x.pl p f=0→0≤p∧p<(x.t.length:Int)∧0≤f∧f<16∧tabAt x.pl p=(x.t.getD p.toNat Tb.nil).l∧(tabAt x.pl p).length=16∧x.o.length≤128∧∃q:Nat,q<x.o.length∧numV x.pl p f=(q:Int)∧0≤(x.o.getD q Dn.zero).rf∧(x.o.getD q Dn.zero).rf≤128):=fun hp=>by
  exact cl63
 exact km31):p:=h
theorem cm32 {p : Prop} (h:p:=by
 have HP:Hid (∀(y:Dv) w',y.pl=dupD x.pl p f→DAns w x w' y→Below w.heap.size w w'→OutP w x (dupD x.pl p f) (fun v=>.tuple #[v,.int .i64 (dupF x.pl p f),.int .i64 (dupE x.pl p f)]) (.returned (.tuple #[.agg #[.slice y.oa y.o.length y.oc,.slice y.ta y.t.length y.tc],.int .i64 (dupF x.pl p f),.int .i64 (dupE x.pl p f)])) w'):=fun y w' h1 h2 h3=>⟨y,rfl,h1,h2,h3⟩
 have HOE:Hid (dupE x.pl p f=if numE x.pl p f≠0 then numE x.pl p f else if fst zeroB (tabAt x.pl p)<0 then 3 else 0):=rfl;have HOF:Hid (dupF x.pl p f=if dupE x.pl p f=0 then fst zeroB (tabAt x.pl p) else 0):=rfl;have HOD:Hid (dupD x.pl p f=if dupE x.pl p f=0 then ⟨bumpL x.o (numV x.pl p f).toNat 1,setE x.pl.t p.toNat (fst zeroB (tabAt x.pl p)).toNat (numV x.pl p f+1)⟩ else x.pl):=rfl;have HTB:Hid (numE x.pl p f=0→0≤p∧p<(x.t.length:Int)∧tabAt x.pl p=(x.t.getD p.toNat Tb.nil).l∧(tabAt x.pl p).length=16∧x.o.length≤128∧∃q:Nat,q<x.o.length∧numV x.pl p f=(q:Int)∧0≤(x.o.getD q Dn.zero).rf∧(x.o.getD q Dn.zero).rf≤128):=fun hp=>by
  exact cl65
 exact km32):p:=h
theorem cm33 {p : Prop} (h:p:=by
 have HX:=Hd h;have HC:Hid (∀W,Below w.heap.size w W→Calls Tryz.prog 50 #[.agg #[.slice x.oa x.o.length x.oc,.slice x.ta x.t.length x.tc]] W fun e w'=>∃y:Dv,e=.returned (.agg #[.slice y.oa y.o.length y.oc,.slice y.ta y.t.length y.tc])∧y.pl=x.pl∧DOwn W.heap.size w' y∧Below W.heap.size W w'):=fun W hb=>copied_any x W (h.below hb) hz;exact km33):p:=h
theorem cm34 {p : Prop} (h:p:=by
 have HX:=Hd h;have HC:Hid (∀W,Below w.heap.size w W→Calls Tryz.prog 116 #[.agg #[.slice x.oa x.o.length x.oc,.slice x.ta x.t.length x.tc]] W fun e w'=>∃y:Dv,e=.returned (.agg #[.slice y.oa y.o.length y.oc,.slice y.ta y.t.length y.tc])∧y.pl=x.pl∧DOwn W.heap.size w' y∧Below W.heap.size W w'):=fun W hb=>clone_any x W (h.below hb) hz;exact km34):p:=h
theorem cm35 {p : Prop} (h:p:=by
 have hpa:p<s.ar.length:=by rw [ok.ar];exact hp
 obtain ⟨a0,c0,hsl⟩:∃a c,l.ar.getD p Sl.nil=⟨a,c⟩:=⟨_,_,rfl⟩
 have HC:Hid (∀(z:Int) W',Below W.heap.size W W'→Calls Tryz.prog 53 #[.slice a0 (s.ar.getD p []).length c0,.int .i64 z] W' (RetW (.tuple #[.agg #[.int .i64 (Ara.optA (Ara.findV (s.ar.getD p []) z)).st,.int .i64 (Ara.optA (Ara.findV (s.ar.getD p []) z)).cn,.int .i64 (Ara.optA (Ara.findV (s.ar.getD p []) z)).fi,.int .i64 (Ara.optA (Ara.findV (s.ar.getD p []) z)).pg,.bool (Ara.optA (Ara.findV (s.ar.getD p []) z)).wr],.bool (Ara.findV (s.ar.getD p []) z).isSome]) W')):=Hd fun z W' hb=>by
  have h1:=(h.below hb).g.im.ra p hpa;rw [hsl] at h1;exact Ara.findR_any 0 a0 (s.ar.getD p []) c0 z W' h1.1 (ok.al p)
 have HR:Hid (∀W',Rm q B W' l s→W'.cell? ⟨l.R,p,none⟩=some (.slice a0 (s.ar.getD p []).length c0)):=Hd fun W' hm=>by
  have h1:=hm.g.r.cell p _ (slC_at l.ar s.ar p hpa);rw [hsl] at h1;exact h1
 have HM:=Hd h;have HEX:Hid (∀b,b∈l.ex→b<W.heap.size):=Hd fun b hb=>(h.g.hx b hb).1;exact km35):p:=h
theorem cm36 {p : Prop} (h:p:=by
 generalize hwB:(((w5.setCell ⟨W.heap.size+1,0,none⟩ (.int .i64 er)).setCell ⟨W.heap.size+1,1,none⟩ (.int .i64 0)).setCell ⟨W.heap.size+1,2,none⟩ (.string ⟨#[]⟩)).setCell ⟨W.heap.size+1,3,none⟩ (.nilFunc)=w9 at *;have HP:Bx2 W w9 W.heap.size (W.heap.size+1) cs [.int .i64 er,.int .i64 0,.string ⟨#[]⟩,.nilFunc]:=by rw [←hwB];exact HX.out.putR [.int .i64 er,.int .i64 0,.string ⟨#[]⟩,.nilFunc] rfl
 skip
 clear r0 r1 r2 r3 rc0 rc1 rc2 rc3;obtain ⟨⟨q0,q1,q2,q3⟩,_,_⟩:=At.four HP.r;exact km36):p:=h
theorem cm37 {p : Prop} (h:p:=by
 obtain ⟨hsc,hcf,hK,htp,hbw⟩:=HPF.out;have HRC:=Hd (record_any 2 scr.length (some ⟨W.heap.size+1,0,none⟩) 2 scr sa scp none 0 [] w3 w4 w3.heap.size a1 len1 cap1 htp hsc rfl b10 b10 HNS.out (Or.inl ⟨rfl,rfl,rfl⟩) b11 (fun s h=>by cases h) HOPS.out);have HCK:Hid (∀(B:Nat) (xs:List Ev) (lv:Value) (v:Value) (ys:List Ev) (wr:World),PsL W w3 B w2.heap.size a1 len1 cap1 scr sa scp (cfgC (.slice (some ⟨W.heap.size+1,0,none⟩) 2 2) (.slice sa scr.length scp)) (begS scr 2 []) xs lv wr→EvRow wr v ys→ys.length≤60→(∀y,y∈ys→knB (begS scr 2 []) y=true)→Calls Tryz.prog 12 #[.agg (cfgC (.slice (some ⟨W.heap.size+1,0,none⟩) 2 2) (.slice sa scr.length scp)).toArray,.slice none 0 0,v] wr (ChkP wr (begS scr 2 []) ys)):=Hd fun B xs lv v ys wr h hev hy hk=>check_any 2 _ 2 scr sa scp none 0 [] v ys wr (h.cin HNS.out HOPS.out (Or.inl ⟨rfl,rfl,rfl⟩) b11 (fun s h=>by cases h) hev hy hk);exact km37):p:=h
theorem cm38 {p : Prop} (h:p:=by
 have HA:Hid (∀W,Below w.heap.size w W→∀j,j<l.length→∃g,a=some ⟨g,0,none⟩∧g<W.heap.size∧(l.length:Int)≤cap∧Cel W g (j*5) (l.getD j Ar.zero)):=by
  exact cl33
 exact km38):p:=h
theorem cm39 {p : Prop} (h:p:=by
 clear HE;have HZ9:Hid (Z=s):=Hd (HZ.out.trans b11);clear HZ;obtain ⟨⟨rc0,rc1,rc2⟩,⟨r0,r1,r2⟩,rh⟩:=At.three HL.out.r;go_wp2_with fail;exact km39):p:=h
theorem cm40 {p : Prop} (h:p:=by
 obtain ⟨W0,hW0⟩:∃W0,W0=(w.alloc (Obj.cells #[.slice oa o.length oc,.slice ta t.length tc] 83)).alloc (Obj.cells Z5.toArray 126):=⟨_,rfl⟩
 have hb0:Below w.heap.size w W0:=by rw [hW0];exact ((Below.refl _ w).alloc Nr _).alloc b11 _
 have hs0:W0.heap.size=w.heap.size+2:=by rw [hW0];simp
 have hB0:At W0 (w.heap.size+1) Z5:=by rw [hW0];exact (At.new (w.alloc (Obj.cells #[.slice oa o.length oc,.slice ta t.length tc] 83)) Z5 126).cast b11
 have hp0:W0.cell? ⟨w.heap.size,0,none⟩=some (.slice oa o.length oc):=by rw [hW0];simp
 have hp1:W0.cell? ⟨w.heap.size,1,none⟩=some (.slice ta t.length tc):=by rw [hW0];simp
 have HB0:=Hd hb0;have HS0:=Hd hs0;have HA0:=Hd hB0;clear hb0 hs0 hB0;simp only [Z5] at hW0;exact km40):p:=h
theorem cm41 {p : Prop} (h:p:=by
 have HMC:=Hd hmc;rw [←hmc] at HC hone ⊢;clear hmc;go_wp2_with (with_reducible refine Des.hold_store 90 rfl ?_)
 have HZ:=Hd (At.new w2 Z31 90);have HBA:Hid (Below w2.heap.size w2 (w2.alloc (.cells Z31.toArray 90))):=Hd (Br.alloc Nr _);change Hid (wpList _ _ _ _ _ (w2.alloc (.cells Z31.toArray 90)));generalize w2.alloc (.cells Z31.toArray 90)=wA at *;refine Des.store_ato 0 (n:=31) mc HZ.out.t HC.out size90 hone rfl rfl rfl rfl ?_;intro w3 hw3;have HM3:Hid (At w3 w2.heap.size mc):=Hd (by rw [hw3];exact HZ.out.store mc HC.out);have HB3:Hid (Below w2.heap.size w2 w3):=Hd (by rw [hw3];exact below_setCells HBA.out Nr mc 0);clear hw3 HZ HBA hone HC;exact km41):p:=h
theorem cm42 {p : Prop} (h:p:=by
 have HE2:=HE.out.trans (if_pos hfl);clear HE;have HE:=Hd HE2;clear HE2;obtain rfl:PR=_:=HE.out.trans (rfl);clear HE;have HZ9:Hid (Z=s):=Hd (HZ.out.trans b11);clear HZ;clear hfl;exact km42):p:=h
theorem cm43 {p : Prop} (h:p:=by
 generalize hwB:(((w5.setCell ⟨W.heap.size+1,0,none⟩ (.int .i64 4)).setCell ⟨W.heap.size+1,1,none⟩ (.int .i64 0)).setCell ⟨W.heap.size+1,2,none⟩ (.string ⟨#[]⟩)).setCell ⟨W.heap.size+1,3,none⟩ (.nilFunc)=w9 at *;have HP:Bx2 W w9 W.heap.size (W.heap.size+1) cs [.int .i64 4,.int .i64 0,.string ⟨#[]⟩,.nilFunc]:=by rw [←hwB];exact HX.out.putR [.int .i64 4,.int .i64 0,.string ⟨#[]⟩,.nilFunc] rfl
 skip
 clear r0 r1 r2 r3 rc0 rc1 rc2 rc3;obtain ⟨⟨q0,q1,q2,q3⟩,_,_⟩:=At.four HP.r;exact km43):p:=h
theorem cm44 {p : Prop} (h:p:=by
 have HN:Hid (∀W,Below w.heap.size w W→∀j,j<(t.getD k Tb.nil).l.length→∃g' o',(t.getD k Tb.nil).a=some ⟨g',o',none⟩∧((t.getD k Tb.nil).l.length:Int)≤(t.getD k Tb.nil).c∧((t.getD k Tb.nil).c:Int)≤9223372036854775807∧W.cell? ⟨g',o'+j,none⟩=some (.int .i64 ((t.getD k Tb.nil).l.getD j 0))):=fun W hb=>by
  obtain ⟨_,_,_,_,_,_,hh⟩:=HR.out W hb k hlt;exact hh
 have hfl:=flat_pref (t:=t.map Tb.l) (k:=k) (by simpa using hlt);exact km44):p:=h
theorem cm45 {p : Prop} (h:p:=by
 have HF:Hid (∀W',Below W.heap.size W W'→Calls Tryz.prog 19 #[.agg (cfgC (.slice pa n pc) (.slice sa scr.length scp)).toArray,.slice a lst.length c,v] W' (FolP W' (begS scr n lst) xs)):=Hd fun W' hb=>(h.below hb).follow pa pc;exact km45):p:=h
theorem cm46 {p : Prop} (h:p:=by
 go_upto_region 1 with (fail)
 generalize W.alloc (.cells cf.toArray 44)=W1 at *;go_wp2_with (with_reducible refine Des.hold_load 44 rfl ?_)
 refine Des.load_ato 0 HE.out.r Tryz.underlying44 rfl hsz44 rfl rfl rfl ?_;exact km46):p:=h
theorem cm47 {p : Prop} (h:p:=by
 have HB2:=Hd (HB.out.alloc HB.out.size (Obj.cells #[Value.int IntKind.i64 es,Value.int IntKind.i64 ec,Value.int IntKind.i64 ef,Value.int IntKind.i64 ep,Value.bool eb] 139));have HO2:=Hd (HO.out.alloc (Obj.cells #[Value.int IntKind.i64 es,Value.int IntKind.i64 ec,Value.int IntKind.i64 ef,Value.int IntKind.i64 ep,Value.bool eb] 139));go_wp2_with fail;exact km47):p:=h
theorem cm48 {p : Prop} (h:p:=by
 have HLK:Hid (∀W',Below W.heap.size W W'→Calls Tryz.prog 43 #[.agg #[.slice l.x.oa l.x.o.length l.x.oc,.slice l.x.ta l.x.t.length l.x.tc],.int .i64 (p:Int),.int .i64 o.fd] W' (RetW (.tuple #[.int .i64 (Des.numV s.d p o.fd),.agg #[.int .i64 (Des.lookV s.d p o.fd).fi,.int .i64 (Des.lookV s.d p o.fd).fl,.int .i64 (Des.lookV s.d p o.fd).f,.int .i64 (Des.lookV s.d p o.fd).cu,.int .i64 (Des.lookV s.d p o.fd).rf],.int .i64 (Des.numE s.d p o.fd)]) W')):=Hd fun W' hb=>by
  exact cl29
 have HM:=Hd h;have HEX:Hid (∀b,b∈l.ex→b<W.heap.size):=Hd fun b hb=>(h.g.hx b hb).1;exact km48):p:=h
theorem cm49 {p : Prop} (h:p:=by
 have HX:=Hd (Bx2.start W (stepC l.M p o x) [.int .i64 0,.int .i64 0,.string ⟨#[]⟩,.nilFunc] 122 114);have hmf:∀(fn:Fn) (first cap:Array Value) (w:World),(Instr.makeFunc fn first cap).run Tryz.prog w=.ok (.func fn first cap) w:=fun _ _ _ _=>rfl;unfold stepV at HLK ⊢;obtain ⟨cs,hcs⟩:∃cs,cs=stepC l.M p o x:=⟨_,rfl⟩
 have HCS:=Hd hcs;rw [←hcs] at HX HLK ⊢;clear hcs h;exact km49):p:=h
theorem cm50 {p : Prop} (h:p:=by
 have HX:=Hd (Bx2.start W (stepC l.M p o x) [.int .i64 0,.int .i64 0,.string ⟨#[]⟩,.nilFunc] 122 114);have hmf:∀(fn:Fn) (first cap:Array Value) (w:World),(Instr.makeFunc fn first cap).run Tryz.prog w=.ok (.func fn first cap) w:=fun _ _ _ _=>rfl;exact km50):p:=h
theorem cm51 {p : Prop} (h:p:=by
 obtain ⟨f,hf,hfn⟩:=HAF.out rfl;obtain ⟨g0,g1⟩:=HIN.out rfl;have HFI:Hid (a.fi=(f:Int)):=Hd hf;rw [hf,Int.toNat_natCast] at HE;have hsd:(s.fs.getD f ⟨#[]⟩).size≤128:=HOR.out.get f;have HFC:=Hd (fs_at s.fs f hfn);clear HAF HIN hf;generalize s.fs.getD f ⟨#[]⟩=sd at *;have hfI:(f:Int)<(s.fs.length:Int):=b10;have hqF:(s.fs.length:Int)≤(q.f:Int):=by have:=HL.out.m.cf;omega
 have hnI:(s.fs.length:Int)≤1000:=by have:=HOK.out.nf;omega
 have w1:wrap64 (a.pg+(v:Int)/16)=a.pg+(v:Int)/16:=IntWalk.wrap64_in _ b10;have w2:wrap64 (a.pg+(v:Int)/16-a.st)=a.pg+(v:Int)/16-a.st:=IntWalk.wrap64_in _ b10;have w3:wrap64 ((a.pg+(v:Int)/16-a.st)*16)=(a.pg+(v:Int)/16-a.st)*16:=IntWalk.wrap64_in _ b10;have w4:wrap64 ((a.pg+(v:Int)/16-a.st)*16+(v:Int)%16)=(a.pg+(v:Int)/16-a.st)*16+(v:Int)%16:=IntWalk.wrap64_in _ b10;obtain ⟨m,rfl⟩:∃m:Nat,at'=(m:Int):=⟨at'.toNat,by omega⟩
 have a0':=HL.out.k.cell 0 (.int .i64 a.st) rfl;have a3':=HL.out.k.cell 3 (.int .i64 a.pg) rfl;have t4:=HL.out.t.cell 4 (.int .i64 (v:Int)) b34;go_upto_region 10 with (fail)
 go_cut [11] from 58 to 71 (fun s11 wx=>s11=.int .i64 (m:Int)∧Hid (Lc true q B W wx l {l with ex:=W.heap.size::(W.heap.size+1)::Kb::l.ex} s Kb cs [.int .i64 0,.int .i64 0,.string ⟨#[]⟩] [.int .i64 a.st,.int .i64 a.cn,.int .i64 a.fi,.int .i64 a.pg,.bool a.wr]))
 case first=>
  go_wp2_with fail;go_meet;exact ⟨by rw [HAT.out],HL⟩
 case rest=>
 obtain ⟨rfl,HL2⟩:=hcut;replace HL:=HL2;clear HL2 HAT;go_upto_region 11 with (fail)
 go_cut [12] from 72 to 79 (fun s12 wx=>s12=.string sd∧Hid (Lc true q B W wx l {l with ex:=W.heap.size::(W.heap.size+1)::Kb::l.ex} s Kb cs [.int .i64 0,.int .i64 0,.string ⟨#[]⟩] [.int .i64 a.st,.int .i64 a.cn,.int .i64 a.fi,.int .i64 a.pg,.bool a.wr]))
 case first=>
  have a2:=HL.out.k.cell 2 (.int .i64 (f:Int)) b18;exact cl7
 case rest=>
 obtain ⟨rfl,HL2⟩:=hcut;replace HL:=HL2;clear HL2 w1 w2 w3 w4 a0' a3' a4 t4 t0;exact km51):p:=h
theorem cm52 {p : Prop} (h:p:=by
 have hyt:y.t.length=x.t.length:=by have:=congrArg (fun d=>d.t.length) HPL.out;simpa [Dv.pl] using this
 have hyo:y.o=x.o:=congrArg De.o HPL.out;have HPT:Hid (y.t.map Tb.l=x.pl.t):=congrArg De.t HPL.out;have hyT:(y.t.getD k Tb.nil).l=T:=by rw [←map_getD y.t k b10,HPT.out,Q2.out];exact map_getD x.t k b10
 have HYT:=Hd hyt;have HYO:=Hd hyo;have HYTT:=Hd hyT;have hkt:k<y.t.length:=b10;exact km52):p:=h
theorem cm53 {p : Prop} (h:p:=by
 have hz':(le==0)=false:=by simpa using hz
 obtain ⟨PR1,PR2⟩:=PR;obtain ⟨rfl,rfl⟩:PR1=_∧PR2=_:=by have:=HE.out.trans (if_pos hz);exact ⟨congrArg Prod.fst this,congrArg Prod.snd this⟩
 clear HE;exact km53):p:=h
theorem cm54 {p : Prop} (h:p:=by
 have hD:newD p=⟨[],List.replicate p.toNat (List.replicate 16 0)⟩:=by unfold newD;rw [if_pos hp]
 have hE:newE p=0:=by unfold newE;rw [if_pos hp]
 obtain ⟨n,rfl⟩:∃n:Nat,p=(n:Int):=⟨p.toNat,by omega⟩
 rw [hD,hE,Int.toNat_natCast] at HP;rw [Int.toNat_natCast] at hD;rw [hD,hE];obtain ⟨hp1,hp2⟩:=hp;generalize OutP w Dv.nil ⟨[],List.replicate n (List.replicate 16 0)⟩ (fun v=>.tuple #[v,.int .i64 0])=Post at *;clear hD hE;have hW:Wk (w.heap.size+1) ((w.alloc (Obj.cells #[.slice none 0 0,.slice none 0 0] 83)).alloc (Obj.cells #[.slice none 0 0,.slice none 0 0] 83)) (w.heap.size+1) Dv.nil:=by
  exact cl54
 have hR:At ((w.alloc (Obj.cells #[.slice none 0 0,.slice none 0 0] 83)).alloc (Obj.cells #[.slice none 0 0,.slice none 0 0] 83)) w.heap.size [.slice none 0 0,.slice none 0 0]:=hr0.alloc _;have hB:Below w.heap.size w ((w.alloc (Obj.cells #[.slice none 0 0,.slice none 0 0] 83)).alloc (Obj.cells #[.slice none 0 0,.slice none 0 0] 83)):=((Below.refl _ w).alloc Nr _).alloc b11 _;have HW:=Hd hW;have HR:=Hd hR;have HB:=Hd hB;clear hW hR hB hr0;exact km54):p:=h
theorem cm55 {p : Prop} (h:p:=by
 have yt0:=HX0.out.t.cell 0 (.pointer (some ⟨l.M,0,none⟩)) b13;have yt1:=HX0.out.t.cell 1 (.int .i64 p) b13;have yt3:=HX0.out.t.cell 3 (.int .i64 o.fd) b13;obtain ⟨ymO,ymP⟩:=(HM.out.below HX0.out.bel).cO;have t0:=HX.out.t.cell 0 (.pointer (some ⟨l.M,0,none⟩)) b13;have t1:=HX.out.t.cell 1 (.int .i64 p) b13;have t3:=HX.out.t.cell 3 (.int .i64 o.fd) b13;obtain ⟨mO,mP⟩:=(HM.out.below HX.out.bel).cO;exact km55):p:=h
theorem cm56 {p : Prop} (h:p:=by
 have HP:Hid (∀(y:Dv) w',y.pl=updD x.pl n f c→DAns w x w' y→Below w.heap.size w w'→OutP w x (updD x.pl n f c) (fun v=>.tuple #[v,.int .i64 (updE x.pl n f c)]) (.returned (.tuple #[.agg #[.slice y.oa y.o.length y.oc,.slice y.ta y.t.length y.tc],.int .i64 (updE x.pl n f c)])) w'):=fun y w' h1 h2 h3=>⟨y,rfl,h1,h2,h3⟩
 have HOE:Hid (updE x.pl n f c=if checkV x.pl=false then 1 else if n<0∨(x.o.length:Int)≤n∨(x.o.getD n.toNat Dn.zero).rf=0 then 4 else if movB f c=false then 2 else 0):=rfl;have HOD:Hid (updD x.pl n f c=if updE x.pl n f c=0 then ⟨x.o.set n.toNat ⟨(x.o.getD n.toNat Dn.zero).fi,(x.o.getD n.toNat Dn.zero).fl,f,c,(x.o.getD n.toNat Dn.zero).rf⟩,x.pl.t⟩ else x.pl):=rfl;have HDS:Hid (∀W,Below w.heap.size w W→∀k,k<x.o.length→∃g of,x.oa=some ⟨g,of,none⟩∧(x.o.length:Int)≤x.oc∧(x.oc:Int)≤9223372036854775807∧DCel W g (of+k*5) (x.o.getD k Dn.zero)):=h.descs;have hol:=hz.o;exact km56):p:=h
theorem cm57 {p : Prop} (h:p:=by
 have HP:Hid (∀(y:Dv) w',y.pl=openD x.pl p fi fl c→DAns w x w' y→Below w.heap.size w w'→OutP w x (openD x.pl p fi fl c) (fun v=>.tuple #[v,.int .i64 (openF x.pl p fi fl c),.int .i64 (openE x.pl p fi fl c)]) (.returned (.tuple #[.agg #[.slice y.oa y.o.length y.oc,.slice y.ta y.t.length y.tc],.int .i64 (openF x.pl p fi fl c),.int .i64 (openE x.pl p fi fl c)])) w'):=fun y w' h1 h2 h3=>⟨y,rfl,h1,h2,h3⟩
 have HOE:Hid (openE x.pl p fi fl c=if procV x.pl p≠0 then procV x.pl p else if (fixB fi fl&&curB c)=false then 2 else if fst zeroB (tabAt x.pl p)<0 then 3 else 0):=rfl;have HOF:Hid (openF x.pl p fi fl c=if openE x.pl p fi fl c=0 then fst zeroB (tabAt x.pl p) else 0):=rfl;have HOD:Hid (openD x.pl p fi fl c=if openE x.pl p fi fl c=0 then ⟨putD x.o ⟨fi,fl,0,c,1⟩,setE x.pl.t p.toNat (fst zeroB (tabAt x.pl p)).toNat ((slotN x.o:Int)+1)⟩ else x.pl):=rfl;exact km57):p:=h
theorem cm58 {p : Prop} (h:p:=by
 have HX:=Hd h;have HC:Hid (∀W,Below w.heap.size w W→Calls Tryz.prog 50 #[.agg #[.slice x.oa x.o.length x.oc,.slice x.ta x.t.length x.tc]] W fun e w'=>∃y:Dv,e=.returned (.agg #[.slice y.oa y.o.length y.oc,.slice y.ta y.t.length y.tc])∧y.pl=x.pl∧DOwn W.heap.size w' y∧Below W.heap.size W w'):=fun W hb=>copied_any x W (h.below hb) hz;have HLK:Hid (∀W,Below w.heap.size w W→Calls Tryz.prog 43 #[.agg #[.slice x.oa x.o.length x.oc,.slice x.ta x.t.length x.tc],.int .i64 p,.int .i64 f] W (RetW (.tuple #[.int .i64 (numV x.pl p f),.agg #[.int .i64 (lookV x.pl p f).fi,.int .i64 (lookV x.pl p f).fl,.int .i64 (lookV x.pl p f).f,.int .i64 (lookV x.pl p f).cu,.int .i64 (lookV x.pl p f).rf],.int .i64 (numE x.pl p f)]) W)):=fun W hb=>lookupR_any x p f W (h.below hb) hz;exact km58):p:=h
theorem cm59 {p : Prop} (h:p:=by
 skip
 have HZ9:Hid (Z=s):=Hd (HZ.out.trans b11);clear HZ;obtain ⟨⟨rc0,rc1,rc2⟩,⟨r0,r1,r2⟩,rh⟩:=At.three HL.out.r;go_wp2_with fail;exact km59):p:=h
theorem cm60 {p : Prop} (h:p:=by
 go_wp2_with fail;refine (bad_any 12 _).mono ?_;rintro e w5 ⟨rfl,hb⟩;replace HX:=Hd (HX.out.below hb);clear hb;obtain ⟨_,⟨r0,r1,r2,r3⟩,rh⟩:=At.four HX.out.r;obtain ⟨rc0,rc1,rc2,rc3⟩:=(At.four HX.out.r).1;go_wp2_with fail;generalize hwB:(((w5.setCell ⟨W.heap.size+1,0,none⟩ (.int .i64 12)).setCell ⟨W.heap.size+1,1,none⟩ (.int .i64 0)).setCell ⟨W.heap.size+1,2,none⟩ (.string ⟨#[]⟩)).setCell ⟨W.heap.size+1,3,none⟩ (.nilFunc)=w9 at *;have HP:Bx2 W w9 W.heap.size (W.heap.size+1) cs [.int .i64 12,.int .i64 0,.string ⟨#[]⟩,.nilFunc]:=by rw [←hwB];exact HX.out.putR [.int .i64 12,.int .i64 0,.string ⟨#[]⟩,.nilFunc] rfl
 skip
 clear r0 r1 r2 r3 rc0 rc1 rc2 rc3;obtain ⟨⟨q0,q1,q2,q3⟩,_,_⟩:=At.four HP.r;exact km60):p:=h
theorem cm61 {p : Prop} (h:p:=by
 have HR:Hid (checkV l=true→∀j,j<l.length→0≤(l.getD j Ar.zero).st∧1≤(l.getD j Ar.zero).cn∧(l.getD j Ar.zero).st+(l.getD j Ar.zero).cn≤64):=fun hc j hj=>by
  exact cl90
 have HM:Hid (checkV l=true→(∀j,j<l.length→inB p (l.getD j Ar.zero)=false)→findV l p=none):=fun hc hm=>by unfold findV;rw [if_pos hc];exact find_miss hm
 have HH:Hid (checkV l=true→∀k,k<l.length→(∀j,j<k→inB p (l.getD j Ar.zero)=false)→inB p (l.getD k Ar.zero)=true→findV l p=some (l.getD k Ar.zero)):=fun hc k hk hm hi=>by unfold findV;rw [if_pos hc];exact find_hit hk hm hi
 have HN:Hid (checkV l=false→findV l p=none):=fun hc=>by unfold findV;rw [hc];rfl
 clear h;exact km61):p:=h
theorem cm62 {p : Prop} (h:p:=by
 clear hwB x0 x1 x2 x3 x4 s0 s1 s2 s3 s4 k2 k3 b5q b5r;obtain ⟨hA5,hD5,hB5⟩:=HF9.out.fin;simp only [List.length_set,hOA] at hA5 hD5 hB5;have e0:=hA5.cell 0 _ rfl;have e1:=hA5.cell 1 _ rfl;have hpo:=HP.out _ _ (by rw [HOD2.out];exact De.ext' rfl HPT.out) hD5 hB5;rw [HOE2.out] at hpo;simp only [List.length_set] at hpo;have HPo:=Hd hpo;obtain ⟨r0,r1,r2,r3,r4⟩:=HF9.out.r.two;obtain ⟨x0,x1,x2,x3,x4⟩:=HF9.out.wk.box.cc;simp only [List.length_set,hOA] at x0 x1;clear hA5 hD5 hB5 hpo hOA;go_wp2_with fail;generalize ((wB.setCell ⟨w.heap.size+2,0,none⟩ (.slice (some ⟨g3,0,none⟩) y.o.length y.oc)).setCell ⟨w.heap.size+2,1,none⟩ (.slice y.ta y.t.length y.tc))=w9 at *;exact km62):p:=h
theorem cm63 {p : Prop} (h:p:=by
 have HX:=Hd h;have HC:Hid (∀W,Below w.heap.size w W→Calls Tryz.prog 116 #[.agg #[.slice x.oa x.o.length x.oc,.slice x.ta x.t.length x.tc]] W fun e w'=>∃y:Dv,e=.returned (.agg #[.slice y.oa y.o.length y.oc,.slice y.ta y.t.length y.tc])∧y.pl=x.pl∧DOwn W.heap.size w' y∧Below W.heap.size W w'):=fun W hb=>clone_any x W (h.below hb) hz;have HNU:Hid (∀W,Below w.heap.size w W→Calls Tryz.prog 122 #[.agg #[.slice x.oa x.o.length x.oc,.slice x.ta x.t.length x.tc],.int .i64 p,.int .i64 f] W (RetW (.tuple #[.int .i64 (numV x.pl p f),.int .i64 (numE x.pl p f)]) W)):=fun W hb=>number_any x p f W (h.below hb) hz;exact km63):p:=h
theorem cm64 {p : Prop} (h:p:=by
 obtain ⟨O,hO⟩:∃O,O=w1.heap.size:=⟨_,rfl⟩
 have how:=ownsRow_below ho1 ((Below.refl w1.heap.size w1).alloc Nr (Obj.cells #[.slice a' o.length c',.slice none 0 0] 83));have hW:Wk (w.heap.size+2) (w1.alloc (Obj.cells #[.slice a' o.length c',.slice none 0 0] 83)) w1.heap.size ⟨a',c',o,none,0,[]⟩:=
  ⟨⟨how,⟨rfl,Or.inl ⟨rfl,rfl⟩⟩,(fun y hy=>by cases hy),List.Pairwise.nil⟩,Bx.new w1 ⟨a',c',o,none,0,[]⟩,hlt⟩
 have hB2:Below (w.heap.size+2) W0 (w1.alloc (Obj.cells #[.slice a' o.length c',.slice none 0 0] 83)):=HB1.out.alloc hlt _;have HWk:=Hd hW;have HB2:=Hd hB2;exact km64):p:=h
theorem cm65 {p : Prop} (h:p:=by
 change bodyPost _ _ _ _ _ (((wc.setCell ⟨W.heap.size+1,0,none⟩ (.int .i64 ue)).setCell ⟨W.heap.size+1,1,none⟩ (.int .i64 0)).setCell ⟨W.heap.size+1,2,none⟩ (.string ⟨#[]⟩));generalize hwB:((wc.setCell ⟨W.heap.size+1,0,none⟩ (.int .i64 ue)).setCell ⟨W.heap.size+1,1,none⟩ (.int .i64 0)).setCell ⟨W.heap.size+1,2,none⟩ (.string ⟨#[]⟩)=w9 at *;have HQ:Hid (At w9 (W.heap.size+1) [.int .i64 ue,.int .i64 0,.string ⟨#[]⟩]):=by rw [←hwB];exact Hd (HL.out.finA ⟨ue,0,⟨#[]⟩⟩ rfl)
 clear rc0 rc1 rc2 r0 r1 r2 rh;obtain ⟨⟨q0,q1,q2⟩,_,_⟩:=At.three HQ.out;exact km65):p:=h
theorem cm66 {p : Prop} (h:p:=by
 generalize begS scr 2 []=s0 at *;generalize (cfgC (.slice (some ⟨W.heap.size+1,0,none⟩) 2 2) (.slice sa scr.length scp))=cf at *;go_wp2_with (with_reducible refine Des.hold_load 44 rfl ?_)
 refine Des.load_ato 0 hcf.r Tryz.underlying44 rfl hsz44 rfl rfl rfl ?_;go_wp2_with fail;refine HRC.out.mono ?_;rintro e w5 ⟨xs,lv,rfl,hown,hri,hxl,htp5,htk5⟩;have HL:=Hd (PsL.start hsc hcf b10 hbw (by have:=HWK.out;omega) (by have:=HS4.out;omega) hown hri hxl htp5 htk5);have HRI:=Hd hri;clear hown hri htp5 htk5 hsc hcf hK htp hbw HRC;obtain ⟨la,lc,rfl⟩:=own_sl HL.out.own;exact km66):p:=h
theorem cm67 {p : Prop} (h:p:=by
 have HX:=Hd (Bx2.start W (stepC l.M (p:Int) o x) [.int .i64 0,.int .i64 0,.string ⟨#[]⟩,.nilFunc] 122 114);have hmf:∀(fn:Fn) (first cap:Array Value) (w:World),(Instr.makeFunc fn first cap).run Tryz.prog w=.ok (.func fn first cap) w:=fun _ _ _ _=>rfl;exact km67):p:=h
theorem cm68 {p : Prop} (h:p:=by
 have HOK:Hid (procV x.pl p=0→0≤p∧p<(x.t.length:Int)∧(tabAt x.pl p).length=16∧tabAt x.pl p=(x.t.getD p.toNat Tb.nil).l∧∀j,j<16→0≤(tabAt x.pl p).getD j 0∧(tabAt x.pl p).getD j 0≤x.o.length):=fun hp=>by
  exact cl89
 have HE:Hid (numE x.pl p f=if procV x.pl p≠0 then procV x.pl p else if f<0∨16≤f∨(tabAt x.pl p).getD f.toNat 0=0 then 4 else 0):=rfl;have HN:Hid (numV x.pl p f=if numE x.pl p f=0 then (tabAt x.pl p).getD f.toNat 0-1 else 0):=rfl;exact km68):p:=h
theorem cm69 {p : Prop} (h:p:=by
 have mO:wc.drew.cell? ⟨l.M,21,none⟩=some (.slice l.x.oa l.x.o.length l.x.oc):=HL.out.m.cO.1;have mP:wc.drew.cell? ⟨l.M,22,none⟩=some (.slice l.x.ta l.x.t.length l.x.tc):=HL.out.m.cO.2;have z0:wc.drew.frozen? ⟨l.M,21,none⟩=false:=HL.out.m.free 21 b10;have z1:wc.drew.frozen? ⟨l.M,22,none⟩=false:=HL.out.m.free 22 b10;have z2:l.M<wc.drew.heap.size:=HL.out.m.g.m.hi;exact km69):p:=h
theorem cm70 {p : Prop} (h:p:=by
 change bodyPost _ _ _ _ _ (((w5.setCell ⟨W.heap.size+1,0,none⟩ (.int .i64 2)).setCell ⟨W.heap.size+1,1,none⟩ (.int .i64 0)).setCell ⟨W.heap.size+1,2,none⟩ (.string ⟨#[]⟩));generalize hwB:((w5.setCell ⟨W.heap.size+1,0,none⟩ (.int .i64 2)).setCell ⟨W.heap.size+1,1,none⟩ (.int .i64 0)).setCell ⟨W.heap.size+1,2,none⟩ (.string ⟨#[]⟩)=w9 at *;exact km70):p:=h
theorem cm71 {p : Prop} (h:p:=by
 have hjl:j<yl.length:=b10;have hjl':(j:Int)<16:=b10;obtain ⟨g',o',rfl,hc1,hc2,hnum⟩:=HN.out wr HW.out.bel j hjl;have htk:=take_pref hjl;have hmem:yl.getD j 0∈yl:=by rw [getD_get hjl];exact List.getElem_mem hjl
 have HTK:=Hd htk;have HMEM:=Hd hmem;clear htk hmem;generalize yl.getD j 0=z at *;exact km71):p:=h
theorem cm72 {p : Prop} (h:p:=by
 generalize OutP w x (openD x.pl p fi fl c) (fun v=>.tuple #[v,.int .i64 (openF x.pl p fi fl c),.int .i64 (openE x.pl p fi fl c)])=Post at *;generalize openD x.pl p fi fl c=od at *;generalize openF x.pl p fi fl c=of at *;generalize openE x.pl p fi fl c=oe at *;generalize procV x.pl p=pv at *;generalize tabAt x.pl p=T at *;exact km72):p:=h
theorem cm73 {p : Prop} (h:p:=by
 generalize OutP w x (dupD x.pl p f) (fun v=>.tuple #[v,.int .i64 (dupF x.pl p f),.int .i64 (dupE x.pl p f)])=Post at *;generalize dupD x.pl p f=od at *;generalize dupF x.pl p f=of at *;generalize dupE x.pl p f=oe at *;generalize numE x.pl p f=ne at *;generalize numV x.pl p f=nv at *;generalize tabAt x.pl p=T at *;exact km73):p:=h
theorem cm74 {p : Prop} (h:p:=by
 have HB:Hid (refOK x.pl=true→∀k,k<x.o.length→0≤(refC x.pl).getD k 0∧(refC x.pl).getD k 0≤16*x.t.length):=fun hh k hk=>by
  have:=refC_bd hh k hk;rw [show x.pl.t.length=x.t.length from List.length_map _] at this;exact this
 have HL:Hid ((refC x.pl).length=x.o.length):=cnt_len _ _;exact km74):p:=h
theorem cm75 {p : Prop} (h:p:=by
 have HX:=Hd (Bx2.start W o.cells [.int .i64 0,.int .i64 0,.string ⟨#[]⟩] 66 62);have hov:opVal o=.agg o.cells.toArray:=rfl;rw [hov];obtain ⟨cs,hcs⟩:∃cs,cs=o.cells:=⟨_,rfl⟩
 have HCS:=Hd hcs;have HKD:=Hd hkd;rw [←hcs] at HX ⊢;clear hcs hov hkd;exact km75):p:=h
theorem cm76 {p : Prop} (h:p:=by
 obtain ⟨hA5,hD5,hB5⟩:=HFR.out.fin;have e0:=hA5.cell 0 _ rfl;have e1:=hA5.cell 1 _ rfl;have hpo:=HP.out y _ b41 hD5 hB5;rw [HOE2.out,HOF2.out] at hpo;have HPo:=Hd hpo;obtain ⟨r0,r1,r2,r3,r4⟩:=HFR.out.r.two;obtain ⟨x0,x1,x2,x3,x4⟩:=HFR.out.wk.box.cc;clear hA5 hD5 hB5 hpo;go_wp2_with fail;exact km76):p:=h
theorem cm77 {p : Prop} (h:p:=by
 have HOF2:Hid (of=0):=by have:=HOF.out;rw [if_neg b21] at this;exact this
 have HOD2:Hid (od=x.pl):=by have:=HOD.out;rw [if_neg b21] at this;exact this
 exact km77):p:=h
theorem cm78 {p : Prop} (h:p:=by
 generalize hwB:(((w5.setCell ⟨W.heap.size+1,0,none⟩ (.int .i64 TE)).setCell ⟨W.heap.size+1,1,none⟩ (.int .i64 0)).setCell ⟨W.heap.size+1,2,none⟩ (.string ⟨#[]⟩)).setCell ⟨W.heap.size+1,3,none⟩ (.nilFunc)=w9 at *;have HP:Bx2 W w9 W.heap.size (W.heap.size+1) cs [.int .i64 TE,.int .i64 0,.string ⟨#[]⟩,.nilFunc]:=by rw [←hwB];exact HX.out.putR [.int .i64 TE,.int .i64 0,.string ⟨#[]⟩,.nilFunc] rfl
 skip
 clear r0 r1 r2 r3 rc0 rc1 rc2 rc3;obtain ⟨⟨q0,q1,q2,q3⟩,_,_⟩:=At.four HP.r;exact km78):p:=h
theorem cm79 {p : Prop} (h:p:=by
 obtain ⟨hA5,hD5,hB5⟩:=HFM.out.fin;simp only [tset_len,HLM.out,c1] at hA5 hD5 hB5;clear c1 hOA;have e0:=hA5.cell 0 _ rfl;have e1:=hA5.cell 1 _ rfl;have hpo:=HP.out _ _ b85 hD5 hB5;rw [HOG2.out] at hpo;simp only [tset_len,HLM.out] at hpo;have HPo:=Hd hpo;obtain ⟨r0,r1,r2,r3,r4⟩:=HFM.out.r.two;clear hA5 hD5 hB5 hpo;go_wp2_with fail;exact km79):p:=h
theorem cm80 {p : Prop} (h:p:=by
 have hsd:(s.fs.getD f ⟨#[]⟩).size≤1000:=hsz _ (by rw [List.getD_eq_getElem?_getD,List.getElem?_eq_getElem hfn];exact List.getElem_mem hfn);have HFC:=Hd (fs_at s.fs f hfn);generalize s.fs.getD f ⟨#[]⟩=sd at *;exact km80):p:=h
theorem cm81 {p : Prop} (h:p:=by
 have HLK:Hid (∀W',Below W.heap.size W W'→Calls Tryz.prog 91 #[stepV l.M p o x,.int .i64 2] W' (RetW (.tuple #[.int .i64 (Des.numV s.d p o.fd),.agg #[.int .i64 (Des.lookV s.d p o.fd).fi,.int .i64 (Des.lookV s.d p o.fd).fl,.int .i64 (Des.lookV s.d p o.fd).f,.int .i64 (Des.lookV s.d p o.fd).cu,.int .i64 (Des.lookV s.d p o.fd).rf],.int .i64 (lkE s p o.fd 2)]) W')):=Hd fun W' hb=>lookup_any' B l s p o x 2 W' (h.below hb) hr hn;have HM:=Hd h;exact km81):p:=h
theorem cm82 {p : Prop} (h:p:=by
 obtain ⟨⟨rc0,rc1,rc2⟩,⟨r0,r1,r2⟩,rh⟩:=At.three HL3.out.r;go_wp2_with fail;change bodyPost _ _ _ _ _ (((w3.setCell ⟨W.heap.size+1,0,none⟩ (.int .i64 0)).setCell ⟨W.heap.size+1,1,none⟩ (.int .i64 uf)).setCell ⟨W.heap.size+1,2,none⟩ (.string ⟨#[]⟩));generalize hwB:((w3.setCell ⟨W.heap.size+1,0,none⟩ (.int .i64 0)).setCell ⟨W.heap.size+1,1,none⟩ (.int .i64 uf)).setCell ⟨W.heap.size+1,2,none⟩ (.string ⟨#[]⟩)=w9 at *;have HQ:Hid (At w9 (W.heap.size+1) [.int .i64 0,.int .i64 uf,.string ⟨#[]⟩]):=by rw [←hwB];exact Hd (HL3.out.finA ⟨0,uf,⟨#[]⟩⟩ rfl)
 clear rc0 rc1 rc2 r0 r1 r2 rh;obtain ⟨⟨q0,q1,q2⟩,_,_⟩:=At.three HQ.out;exact km82):p:=h
theorem cm83 {p : Prop} (h:p:=by
 go_wp2_with fail;have HD:=HZ.out.put s c f q wb;have HBD:=HB.out.trans (put5w_below (B:=w.heap.size) w4 w.heap.size s c f q wb Nr);unfold put5w at HD HBD;generalize (((((w4.setCell {block:=w.heap.size,off:=0} (Value.int IntKind.i64 s)).setCell {block:=w.heap.size,off:=1} (Value.int IntKind.i64 c)).setCell {block:=w.heap.size,off:=2} (Value.int IntKind.i64 f)).setCell {block:=w.heap.size,off:=3} (Value.int IntKind.i64 q)).setCell {block:=w.heap.size,off:=4} (Value.bool wb))=W9 at *;have d0:=HD.c0;have d1:=HD.c1;have d2:=HD.c2;have d3:=HD.c3;have d4:=HD.c4;simp only at d0 d1 d2 d3 d4;exact km83):p:=h
theorem cm84 {p : Prop} (h:p:=by
 change bodyPost _ _ _ _ _ (((wc.setCell ⟨W.heap.size+1,0,none⟩ (.int .i64 0)).setCell ⟨W.heap.size+1,1,none⟩ (.int .i64 uf)).setCell ⟨W.heap.size+1,2,none⟩ (.string ⟨#[]⟩));generalize hwB:((wc.setCell ⟨W.heap.size+1,0,none⟩ (.int .i64 0)).setCell ⟨W.heap.size+1,1,none⟩ (.int .i64 uf)).setCell ⟨W.heap.size+1,2,none⟩ (.string ⟨#[]⟩)=w9 at *;have HQ:Hid (At w9 (W.heap.size+1) [.int .i64 0,.int .i64 uf,.string ⟨#[]⟩]):=by rw [←hwB];exact Hd (HL.out.finA ⟨0,uf,⟨#[]⟩⟩ rfl)
 clear rc0 rc1 rc2 r0 r1 r2 rh;obtain ⟨⟨q0,q1,q2⟩,_,_⟩:=At.three HQ.out;exact km84):p:=h
theorem cm85 {p : Prop} (h:p:=by
 subst hne;obtain ⟨q0,q1,f0,f1,q2,q3,q4,q,q5,q6,q7,q8⟩:=HTB.out rfl;obtain ⟨k,rfl⟩:∃k:Nat,p=(k:Int):=⟨p.toNat,by omega⟩
 obtain ⟨j,rfl⟩:∃j:Nat,f=(j:Int):=⟨f.toNat,by omega⟩
 rw [Int.toNat_natCast] at q2;have Q2:=Hd q2;have Q3:=Hd q3;subst q6;have HQ:Hid (q<x.o.length):=q5;have HRF:Hid (0≤(x.o.getD q Dn.zero).rf∧(x.o.getD q Dn.zero).rf≤128):=⟨q7,q8⟩
 rw [if_pos rfl,Int.toNat_natCast,Int.toNat_natCast,Int.toNat_natCast] at HOD;rw [Int.toNat_natCast] at HOG;clear q2 q3 q5 q7 q8;exact km85):p:=h
theorem cm86 {p : Prop} (h:p:=by
 have HM1:=Hd (HM.out.below HX.out.bel);have HR1:Hid (W.heap.size+1<W1.heap.size):=Hd HX.out.r.hi;go_cut [3,4,5] (fun s3 s4 s5 wx=>∃(K:Nat) (y:Dv),s3=.pointer (some ⟨K,0,none⟩)∧s4=.int .i64 sv∧s5=.int .i64 er∧Hid (y.pl=DD)∧Hid (Nb W1 wx K [.slice y.oa y.o.length y.oc,.slice y.ta y.t.length y.tc])∧Hid (DAns W1 l.x wx y))
 case first=>
  exact cm23
 case rest=>
 obtain ⟨K,y,rfl,rfl,rfl,HPL,HN,HV⟩:=hcut;replace HX:=Hd (HX.out.below HN.out.bel);clear HC;exact km86):p:=h
theorem cm87 {p : Prop} (h:p:=by
 have hD:newD p=⟨[],[]⟩:=by unfold newD;rw [if_neg hp]
 have hE:newE p=2:=by unfold newE;rw [if_neg hp]
 rw [hD,hE] at HP;rw [hD,hE];have HN:=Hd hp;have e0:=hr0.cell 0 _ rfl;have e1:=hr0.cell 1 _ rfl;have HB:Hid (Below w.heap.size w (w.alloc (Obj.cells #[.slice none 0 0,.slice none 0 0] 83))):=(Below.refl _ w).alloc Nr _;have HPo:=Hd (HP.out Dv.nil _ rfl ⟨DIn.nil _,fun b h=>Or.inl h⟩ HB.out);clear hp hD hE hr0 HP HB;unfold dVal Dv.nil at HPo;simp only [List.length_nil] at HPo;exact km87):p:=h
theorem cm88 {p : Prop} (h:p:=by
 have HLK:Hid (∀W',Below W.heap.size W W'→Calls Tryz.prog 91 #[stepV l.M p o x,.int .i64 1] W' (RetW (.tuple #[.int .i64 (Des.numV s.d p o.fd),.agg #[.int .i64 (Des.lookV s.d p o.fd).fi,.int .i64 (Des.lookV s.d p o.fd).fl,.int .i64 (Des.lookV s.d p o.fd).f,.int .i64 (Des.lookV s.d p o.fd).cu,.int .i64 (Des.lookV s.d p o.fd).rf],.int .i64 (lkE s p o.fd 1)]) W')):=Hd fun W' hb=>lookup_any' B l s p o x 1 W' (h.below hb) hr hn;have HM:=Hd h;exact km88):p:=h
theorem cm89 {p : Prop} (h:p:=by
 have HLK:Hid (∀W',Below W.heap.size W W'→Calls Tryz.prog 91 #[stepV l.M p o x,.int .i64 0] W' (RetW (.tuple #[.int .i64 (Des.numV s.d p o.fd),.agg #[.int .i64 (Des.lookV s.d p o.fd).fi,.int .i64 (Des.lookV s.d p o.fd).fl,.int .i64 (Des.lookV s.d p o.fd).f,.int .i64 (Des.lookV s.d p o.fd).cu,.int .i64 (Des.lookV s.d p o.fd).rf],.int .i64 (lkE s p o.fd 0)]) W')):=Hd fun W' hb=>lookup_any' B l s p o x 0 W' (h.below hb) hr hn;have HM:=Hd h;exact km89):p:=h
theorem cm90 {p : Prop} (h:p:=by
 have HOKR:Hid (∀ys:List Ev,Ok ys.length (runS (begS scr 2 []) ys ys.length).1∧(runS (begS scr 2 []) ys ys.length).1.fs.length=2):=Hd fun ys=>⟨(run_ok (ok_beg scr 2 [] b10 HNS.out (fun s h=>by cases h) HOPS.out) ys ys.length),((run_keep _ ys _).2.trans (begF_len 2 []))⟩
 have hsz44:(Tryz.prog.info? 44).map (·.size)=some (cfgC (.slice (some ⟨W.heap.size+1,0,none⟩) 2 2) (.slice sa scr.length scp)).length:=size44;exact km90):p:=h
theorem cm91 {p : Prop} (h:p:=by
 have HN:Hid (∀(m:Int) W',1≤m→m≤1000000→TP w3 w3.heap.size a1 len1 cap1 W'→Calls Tryz.prog 9 #[.pointer (some ⟨w3.heap.size,0,none⟩),.int .i64 m] W' fun e w'=>∃r:Int,0≤r∧r<m∧e=.returned (.int .i64 r)∧Tick w3.heap.size W' w'∧TP w3 w3.heap.size a1 len1 cap1 w'):=Hd fun m W' h1 h2 h3=>next_tp m w3 W' w3.heap.size a1 len1 cap1 h1 h2 h3;exact km91):p:=h
theorem cm92 {p : Prop} (h:p:=by
 have HAD:Hid (∀W',Below W.heap.size W W'→Calls Tryz.prog 111 #[stepV l.M (p:Int) o x] W' (RetW (.tuple #[.agg #[.int .i64 (adA s p o).st,.int .i64 (adA s p o).cn,.int .i64 (adA s p o).fi,.int .i64 (adA s p o).pg,.bool (adA s p o).wr],.int .i64 (adN s p o),.bool (adB s p o)]) W')):=Hd fun W' hb=>address_any B l s p o x W' (h.below hb) hp hps hn2 hal hoff;have HM:=Hd h;exact km92):p:=h
theorem cm93 {p : Prop} (h:p:=by
 have HE:Hid (openedR s p o=if o.fi<0∨(s.fs.length:Int)≤o.fi then (badR 2,s) else if Des.openE s.d p o.fi o.fl (s.fa.getD o.fi.toNat 0)=0 then (⟨0,Des.openF s.d p o.fi o.fl (s.fa.getD o.fi.toNat 0),⟨#[]⟩⟩,{s with d:=Des.openD s.d p o.fi o.fl (s.fa.getD o.fi.toNat 0)}) else (badR (Des.openE s.d p o.fi o.fl (s.fa.getD o.fi.toNat 0)),s)):=Hd rfl;exact km93):p:=h
theorem cm94 {p : Prop} (h:p:=by
 have hye:=HSE.out k hlt2;have htk:(t.map Tb.l).take (k+1)=(t.map Tb.l).take k++[(t.getD k Tb.nil).l]:=by
  rw [List.take_add_one,List.getElem?_map,List.getElem?_eq_getElem hlt2,getD_get hlt2];rfl
 have HTK:=Hd htk;clear htk HRW HSE HR HWk HB2;generalize t.getD k Tb.nil=q at *;obtain ⟨ya,yc,yl⟩:=q;simp only at hcell hrow hye HTK;exact km94):p:=h
theorem cm95 {p : Prop} (h:p:=by
 have HFE:Hid (∀W (k:Nat),Below w.heap.size w W→k<x.t.length→(x.t.getD k Tb.nil).l.length=16→Calls Tryz.prog 49 #[.agg #[.slice x.oa x.o.length x.oc,.slice x.ta x.t.length x.tc],.int .i64 (k:Int)] W (RetW (.int .i64 (fst zeroB (x.t.getD k Tb.nil).l)) W)):=fun W k hb h1 h2=>free_any x k W (h.below hb) h1 h2;exact km95):p:=h
theorem cm96 {p : Prop} (h:p:=by
 have HLZ:Hid (Des.numE s.d p o.fd=0→Des.rightD (Des.lookV s.d p o.fd)=true∧∃f:Nat,(Des.lookV s.d p o.fd).fi=(f:Int)∧f<s.fs.length):=Hd fun hn=>look_r ok.rt okr hn;exact km96):p:=h
theorem cm97 {p : Prop} (h:p:=by
 obtain ⟨g4,g5,c1,c2,c3,c4,c5,c6,c7,c8,c9,c10,c11,c12⟩:=HF8.out.wk.own.tabAt k hkt b86;simp only at c1 c2 c3 c4 c5 c6 c7 c8;have hyT:=HYTT.out;have q3:=Q3.out;rw [hyT] at c5 c6 c8;have c8j:=c8 j b10;generalize hcT:(y.t.getD k Tb.nil).c=cT2 at c5 c6 c7;generalize T.getD j 0=zj at c8j;clear hcT;have c9j:=c9 j;have nO:=HF8.out.wk.neT k hkt c4;have nR:w.heap.size+1≠g5:=b10;exact km97):p:=h
theorem cm98 {p : Prop} (h:p:=by
 obtain ⟨r0,r1,r2,r3,r4⟩:=HR2.out.two;obtain ⟨hA5,hD5,hB5⟩:=ret_in HX.out HR2.out HB2.out (Nat.lt_succ_self _);have e0:=hA5.cell 0 _ rfl;have e1:=hA5.cell 1 _ rfl;have hpo:=HP.out x _ b36 hD5 hB5;exact km98):p:=h
theorem cm99 {p : Prop} (h:p:=by
 have HF9:=Hd (HF8.out.turn ((Below.refl (w.heap.size+2) _).setCell (p:=⟨g3,q*5+4,none⟩) b6 (.int .i64 ((y.o.getD q Dn.zero).rf-1))) (HF8.out.wk.putC b1 q hqy 4 b10 (.int .i64 ((y.o.getD q Dn.zero).rf-1)) (bump (y.o.getD q Dn.zero) ((y.o.getD q Dn.zero).rf-1)) rfl));have nT:=HFR.out.wk.neT k hkt c4;have nO:=HFR.out.wk.neO b1;have nTO:g3≠g5:=by
  exact cl39
 obtain ⟨x0,x1,x2,x3,x4⟩:=HFR.out.wk.box.cc;have hOA:y.oa=some ⟨g3,0,none⟩:=b1;simp only [c1,hOA] at x0 x1;have hqI:(q:Int)<(y.o.length:Int):=b10;have b5q:=b5 (q*5+4);have HBU:Hid (bump (y.o.getD q Dn.zero) ((y.o.getD q Dn.zero).rf-1)=bump (y.o.getD q Dn.zero) ((y.o.getD q Dn.zero).rf+-1)):=rfl;have HOB:Hid (bumpL y.o q (-1)=y.o.set q (bump (y.o.getD q Dn.zero) ((y.o.getD q Dn.zero).rf-1))):=rfl;have hrb:(bump (y.o.getD q Dn.zero) ((y.o.getD q Dn.zero).rf-1)).rf=(y.o.getD q Dn.zero).rf-1:=rfl;generalize hbu:bump (y.o.getD q Dn.zero) ((y.o.getD q Dn.zero).rf-1)=bu at *;clear hbu HBU;generalize hrfv:(y.o.getD q Dn.zero).rf=rf at *;have HRB:=Hd hrb;clear hrb hrfv b4 b5 c8 c9 hyT q3 HFR HF8;obtain ⟨hrf0,hrf1⟩:=hrf0;have hws:IntKind.i64.wrap (rf-1)=rf-1:=IntWalk.i64_in _ b10;go_upto_region 7 with (fail)
 exact km99):p:=h
theorem cm100 {p : Prop} (h:p:=by
 have nT:=HFR.out.wk.neT k hkt c4;have nO:=HFR.out.wk.neO b1;have nRT:w.heap.size+1≠g5:=b10;have nRO:w.heap.size+1≠g3:=b10;have nTO:g3≠g5:=by
  exact cl39
 have nOB:g4≠g3:=by
  exact cl99
 have nOC:g4≠g5:=fun e=>c12 e.symm;obtain ⟨hA5,hD5,hB5⟩:=HF9.out.fin;have hOA:y.oa=some ⟨g3,0,none⟩:=b1;simp only [tset_len,List.length_set,c1,hOA] at hA5 hD5 hB5;have e0:=hA5.cell 0 _ rfl;have e1:=hA5.cell 1 _ rfl;have hpo:=HP.out _ _ (by rw [HOD2.out];exact De.ext' (by rw [←HYO.out];rfl) b31) hD5 hB5;rw [HOE2.out,HOF2.out] at hpo;simp only [tset_len,List.length_set] at hpo;have HPo:=Hd hpo;obtain ⟨r0,r1,r2,r3,r4⟩:=HFR.out.r.two;obtain ⟨x0,x1,x2,x3,x4⟩:=HFR.out.wk.box.cc;simp only [c1,hOA] at x0 x1;have hNb:(q:Int)≤20000:=by have:=HQ.out;omega
 have hqI:(q:Int)<(y.o.length:Int):=b10;have b5q:=b5 (q*5+4);clear hA5 hD5 hB5 hpo HFR c8 c9 hyT q3 c4 c1 hOA b1 b4 b5 HF8 HF9 hbu;obtain ⟨hrf0,hrf1⟩:=hrf0;generalize (y.o.getD q Dn.zero).rf=rf at *;go_wp2_with fail;exact km100):p:=h
theorem cm101 {p : Prop} (h:p:=by
 obtain ⟨hA5,hD5,hB5⟩:=HFR.out.fin;have e0:=hA5.cell 0 _ rfl;have e1:=hA5.cell 1 _ rfl;have hpo:=HP.out y _ b41 hD5 hB5;rw [HOE2.out,HOF2.out] at hpo;have HPo:=Hd hpo;obtain ⟨r0,r1,r2,r3,r4⟩:=HFR.out.r.two;obtain ⟨x0,x1,x2,x3,x4⟩:=HFR.out.wk.box.cc;clear hA5 hD5 hB5 hpo;exact km101):p:=h
theorem cm102 {p : Prop} (h:p:=by
 clear HE;replace hmf:=hmf'.out;obtain ⟨_,⟨r0,r1,r2,r3⟩,rh⟩:=At.four HX.out.r;obtain ⟨rc0,rc1,rc2,rc3⟩:=(At.four HX.out.r).1;go_wp2_with fail;exact km102):p:=h
theorem cm103 {p : Prop} (h:p:=by
 have HR1:Hid (W.heap.size+1<w1.heap.size):=Hd HX.out.r.hi;have HK:=Hd (At.new w1 [.int .i64 D.fi,.int .i64 D.fl,.int .i64 D.f,.int .i64 D.cu,.int .i64 D.rf] 126);have HBK:Hid (Below w1.heap.size w1 (w1.alloc (.cells ([.int .i64 D.fi,.int .i64 D.fl,.int .i64 D.f,.int .i64 D.cu,.int .i64 D.rf]:List Value).toArray 126))):=Hd (Br.alloc Nr _);exact km103):p:=h
theorem cm104 {p : Prop} (h:p:=by
 refine (HAD.out _ HX.out.bel).mono ?_;rintro e w1 ⟨rfl,hb⟩;replace HX:=Hd (HX.out.below hb);clear hb HAD;have HR1:Hid (W.heap.size+1<w1.heap.size):=Hd HX.out.r.hi;have HK:=Hd (At.new w1 [.int .i64 A.st,.int .i64 A.cn,.int .i64 A.fi,.int .i64 A.pg,.bool A.wr] 139);have HBK:Hid (Below w1.heap.size w1 (w1.alloc (.cells ([.int .i64 A.st,.int .i64 A.cn,.int .i64 A.fi,.int .i64 A.pg,.bool A.wr]:List Value).toArray 139))):=Hd (Br.alloc Nr _);go_upto_region 2 with (fail)
 replace HX:=Hd (HX.out.below HBK.out);clear HBK;generalize w1.alloc (Obj.cells #[.int .i64 A.st,.int .i64 A.cn,.int .i64 A.fi,.int .i64 A.pg,.bool A.wr] 139)=W1 at *;generalize w1.heap.size=K at *;exact km104):p:=h
theorem cm105 {p : Prop} (h:p:=by
 go_wp2_with fail;have hz:=Blk.new w 0 0 0 0 false;have HB:Hid (Below w.heap.size w (w.alloc (Obj.cells #[Value.int IntKind.i64 0,Value.int IntKind.i64 0,Value.int IntKind.i64 0,Value.int IntKind.i64 0,Value.bool false] 139))):=(Below.refl _ w).alloc Nr _;generalize w.alloc (Obj.cells #[Value.int IntKind.i64 0,Value.int IntKind.i64 0,Value.int IntKind.i64 0,Value.int IntKind.i64 0,Value.bool false] 139)=w1 at *;refine (HC.out _ HB.out).mono ?_;rintro e w2 ⟨rfl,hb⟩;replace hz:=hz.below hb;replace HB:=Hd (HB.out.trans (hb.mono HB.out.size));have HZ:=Hd hz;clear hb hz HC;exact km105):p:=h
theorem cm106 {p : Prop} (h:p:=by
 have HR:Hid (∀W',Mm B W' l s→W'.cell? ⟨l.R,p,none⟩=some (.slice a0 (s.ar.getD p []).length c0)):=Hd fun W' hm=>by
  have h1:=hm.r.cell p _ (slC_at l.ar s.ar p hp);rw [hsl] at h1;exact h1
 exact km106):p:=h
theorem cm107 {p : Prop} (h:p:=by
 go_wp2_with fail;change bodyPost _ _ _ _ _ (((wc.setCell ⟨W.heap.size+1,0,none⟩ (.int .i64 2)).setCell ⟨W.heap.size+1,1,none⟩ (.int .i64 0)).setCell ⟨W.heap.size+1,2,none⟩ (.string ⟨#[]⟩));generalize hwB:((wc.setCell ⟨W.heap.size+1,0,none⟩ (.int .i64 2)).setCell ⟨W.heap.size+1,1,none⟩ (.int .i64 0)).setCell ⟨W.heap.size+1,2,none⟩ (.string ⟨#[]⟩)=w9 at *;exact km107):p:=h
theorem cm108 {p : Prop} (h:p:=by
 subst hz;have HPR:Hid (PR=_):=Hd (HE.out.trans (if_pos rfl));obtain ⟨PR1,PR2⟩:=PR;obtain ⟨rfl,rfl⟩:PR1=_∧PR2=_:=by have:=HPR.out;exact ⟨congrArg Prod.fst this,congrArg Prod.snd this⟩
 clear HE HPR;obtain ⟨_,⟨r0,r1,r2,r3⟩,rh⟩:=At.four HX.out.r;obtain ⟨rc0,rc1,rc2,rc3⟩:=(At.four HX.out.r).1;go_wp2_with fail;exact km108):p:=h
theorem cm109 {p : Prop} (h:p:=by
 have HCA:Hid (∀(sd:ByteArray) (f:Int) W',sd.size≤1000→Calls Tryz.prog 95 #[.string sd,.int .i64 f,.string o.dat] W' (RetW (.tuple #[.string (Con.writeV sd f o.dat).1,.int .i64 (Con.writeV sd f o.dat).2]) W')):=Hd fun sd f W' hs=>Con.write_any sd f o.dat W' b17 b17;exact km109):p:=h
theorem cm110 {p : Prop} (h:p:=by
 have HP:Hid (∀(y:Dv) w',y.pl=newD p→DAns w Dv.nil w' y→Below w.heap.size w w'→OutP w Dv.nil (newD p) (fun v=>.tuple #[v,.int .i64 (newE p)]) (.returned (.tuple #[dVal y,.int .i64 (newE p)])) w'):=fun y w' h1 h2 h3=>⟨y,rfl,h1,h2,h3⟩
 have hr0:=(At.new w Z2 83)
 unfold Z2 at hr0;exact km110):p:=h
theorem cm111 {p : Prop} (h:p:=by
 have hrn:rf-1≤0:=b10;have HOG2:Hid (og=true):=by have:=HOG.out;rw [decide_eq_true hrn] at this;exact this
 have HOD2:=HOD.out;rw [if_pos hrn] at HOD2;replace HOD2:=Hd HOD2;have hth:=there5 b4' b5';have hwk9:=HF9.out.wk.putO hOA q hq9 Dn.zero;simp only [List.set_set] at hwk9;clear hrp;go_wp2_with (with_reducible refine hold_store 126 rfl ?_)
 refine store_ato (q*5) (Dn.cells Dn.zero) hth rfl size34 (by simp [Dn.cells,Dn.zero,Value.oneCell']) rfl rfl rfl rfl ?_;intro wC hwC;rw [←hwC] at hwk9;have hbelC:Below (w.heap.size+2) wB wC:=by rw [hwC];exact below_cells b6 _ _ Br
 have HFC:=Hd (HF9.out.turn hbelC hwk9);clear hwC hwk9 hbelC hth b4' b5' hgq hq9 HF9 x0 x1 x2 x3 x4 k4;obtain ⟨O1,hO1⟩:∃O1,O1=y.o.set q Dn.zero:=⟨_,rfl⟩
 rw [←hO1] at HFC HOD2;have HL1:Hid (O1.length=y.o.length):=by rw [Hid,hO1,List.length_set]
 have hOc:(y.oc:Int)≤9223372036854775807:=b3;have hOl:(y.o.length:Int)≤(y.oc:Int):=b2;clear hO1;simp only [hOA] at HFC;go_wp2_with fail;go_frame;exact km111):p:=h
theorem cm112 {p : Prop} (h:p:=by
 replace HR2:=Hd (HR2.out.below hb HR2.out.hi);replace HB2:=Hd (HB2.out.trans (hb.mono HB2.out.size));replace k0:=(hb.cell (p:=⟨w.heap.size,0,none⟩) (World.block_lt_of_cell? _ _ k0)).trans k0;replace k1:=(hb.cell (p:=⟨w.heap.size,1,none⟩) (World.block_lt_of_cell? _ _ k1)).trans k1;replace hl2:=Nat.le_trans hl2 hb.size;exact km112):p:=h
theorem cm113 {p : Prop} (h:p:=by
 obtain ⟨g4,g5,c1,c2,c3,c4,c5,c6,c7,c8,c9,c10,c11,c12⟩:=HFR.out.wk.own.tabAt k hkt (by rw [hyT,q3];omega);rw [hyT] at c5 c6 c8;have c8j:=c8 j b10;generalize hcT:(y.t.getD k Tb.nil).c=cT2 at c5 c6 c7;generalize T.getD j 0=zj at c8j;clear hcT;have c9j:=c9 j;exact km113):p:=h
theorem cm114 {p : Prop} (h:p:=by
 have e0:=hA5.cell 0 _ rfl;have e1:=hA5.cell 1 _ rfl;have hpo:=HP.out _ _ b65 hD5 hB5;rw [HOE2.out,HOF2.out] at hpo;simp only [tset_len,List.length_set,List.length_append,List.length_singleton] at hpo;have HPo:=Hd hpo;obtain ⟨r0,r1,r2,r3,r4⟩:=HF8.out.r.two;obtain ⟨x0,x1,x2,x3,x4⟩:=HF8.out.wk.box.cc;exact km114):p:=h
theorem cm115 {p : Prop} (h:p:=by
 rintro e w5 ⟨rfl,hb⟩;replace HX:=Hd (HX.out.below hb);clear hb;obtain ⟨_,⟨r0,r1,r2,r3⟩,rh⟩:=At.four HX.out.r;obtain ⟨rc0,rc1,rc2,rc3⟩:=(At.four HX.out.r).1;exact km115):p:=h
theorem cm116 {p : Prop} (h:p:=by
 obtain ⟨PR1,PR2⟩:=PR;obtain ⟨rfl,rfl⟩:PR1=_∧PR2=_:=by have:=HE.out.trans (if_pos hu);exact ⟨congrArg Prod.fst this,congrArg Prod.snd this⟩
 clear HE;exact km116):p:=h
theorem cm117 {p : Prop} (h:p:=by
 go_wp2_with fail;have HD:=HZ.out.put 0 0 0 0 false;have HBD:=HB.out.trans (put5w_below (B:=w.heap.size) wr w.heap.size 0 0 0 0 false Nr);unfold put5w at HD HBD;generalize (((((wr.setCell {block:=w.heap.size,off:=0} (Value.int IntKind.i64 0)).setCell {block:=w.heap.size,off:=1} (Value.int IntKind.i64 0)).setCell {block:=w.heap.size,off:=2} (Value.int IntKind.i64 0)).setCell {block:=w.heap.size,off:=3} (Value.int IntKind.i64 0)).setCell {block:=w.heap.size,off:=4} (Value.bool false))=W9 at *;exact km117):p:=h
theorem cm118 {p : Prop} (h:p:=by
 subst hz;have HE2:=Hd (HE.out.trans (if_neg b11));clear HE;have HE:=HE2;clear HE2;obtain ⟨f,hf,hfn⟩:=HLZ.out rfl;rw [hf,Int.toNat_natCast] at HE;have HFI:Hid (D.fi=(f:Int)):=Hd hf;exact km118):p:=h
theorem cm119 {p : Prop} (h:p:=by
 have HCA:Hid (∀(sd:ByteArray) (z:Int) W',sd.size≤128→Calls Tryz.prog 54 #[.string sd,.int .i64 z,.string o.dat] W' (RetW (.tuple #[.string (Con.writeV sd z o.dat).1,.int .i64 (Con.writeV sd z o.dat).2]) W')):=Hd fun sd z W' hs=>Con.writeR_any sd z o.dat W' b17 b17;exact km119):p:=h
theorem cm120 {p : Prop} (h:p:=by
 have HPo:=Hd hpo;obtain ⟨r0,r1,r2,r3,r4⟩:=HFR.out.r.two;obtain ⟨x0,x1,x2,x3,x4⟩:=HFR.out.wk.box.cc;clear hA5 hD5 hB5 hpo;go_wp2_with fail;generalize ((w3.setCell ⟨w.heap.size+1,0,none⟩ (.slice y.oa y.o.length y.oc)).setCell ⟨w.heap.size+1,1,none⟩ (.slice y.ta y.t.length y.tc))=w9 at *;exact km120):p:=h
theorem cm121 {p : Prop} (h:p:=by
 have HPR:Hid (PR=_):=Hd (HE.out.trans (if_neg hz));obtain ⟨PR1,PR2⟩:=PR;obtain ⟨rfl,rfl⟩:PR1=_∧PR2=_:=by have:=HPR.out;exact ⟨congrArg Prod.fst this,congrArg Prod.snd this⟩
 have hz':(er==0)=false:=by simpa using hz
 clear HE HPR;go_wp2_with fail;refine (bad_any er _).mono ?_;exact km121):p:=h
theorem cm122 {p : Prop} (h:p:=by
 have HOG2:Hid (og=false):=by have:=HOG.out;rw [decide_eq_false (by omega:¬(rf-1≤0)),Bool.and_false] at this;exact this
 have HOD2:=HOD.out;rw [if_neg b10,HOB.out] at HOD2;replace HOD2:=Hd HOD2;clear b4' b5' hgq hq9;obtain ⟨hA5,hD5,hB5⟩:=HF9.out.fin;simp only [tset_len,List.length_set,c1,hOA] at hA5 hD5 hB5;clear c1 hOA;have e0:=hA5.cell 0 _ rfl;have e1:=hA5.cell 1 _ rfl;have hpo:=HP.out _ _ b65 hD5 hB5;rw [HOG2.out] at hpo;simp only [tset_len,List.length_set] at hpo;have HPo:=Hd hpo;obtain ⟨r0,r1,r2,r3,r4⟩:=HF9.out.r.two;clear hA5 hD5 hB5 hpo;go_wp2_with fail;generalize (wB.setCell ⟨w.heap.size+1,0,none⟩ (.slice (some ⟨g3,0,none⟩) y.o.length y.oc)).setCell ⟨w.heap.size+1,1,none⟩ (.slice (some ⟨g4,0,none⟩) y.t.length y.tc)=w9 at *;exact km122):p:=h
theorem cm123 {p : Prop} (h:p:=by
 obtain rfl:m=0:=b10;have hfin:trim O1=O1.take 0:=by rw [HTR.out,List.take_zero];rfl
 have HFIN:=Hd hfin;clear hfin hm0;obtain ⟨hA5,hD5,hB5⟩:=HFM.out.fin;simp only [tset_len,HLM.out,c1] at hA5 hD5 hB5;clear c1 hOA;have e0:=hA5.cell 0 _ rfl;have e1:=hA5.cell 1 _ rfl;have hpo:=HP.out _ _ b85 hD5 hB5;rw [HOG2.out] at hpo;simp only [tset_len,HLM.out] at hpo;have HPo:=Hd hpo;obtain ⟨r0,r1,r2,r3,r4⟩:=HFM.out.r.two;clear hA5 hD5 hB5 hpo;go_wp2_with fail;generalize (wr.setCell ⟨w.heap.size+1,0,none⟩ (.slice (some ⟨g3,0,none⟩) 0 y.oc)).setCell ⟨w.heap.size+1,1,none⟩ (.slice (some ⟨g4,0,none⟩) y.t.length y.tc)=w9 at *;exact km123):p:=h
theorem cm124 {p : Prop} (h:p:=by
 have HX0:=HX;replace HX:=Hd (HX.out.below Br.drew);have hT:W.heap.size<W1.heap.size:=HX0.out.t.hi;have hM:l.M<W1.heap.size:=(HM.out.below HX0.out.bel).m.hi;have e1:¬W1.heap.size=W.heap.size:=b10;have e2:¬W.heap.size=W1.heap.size:=b10;have e3:¬W1.heap.size=l.M:=b10;have e4:¬l.M=W1.heap.size:=b10;have hm1:l.F<W1.heap.size:=HM1.out.hi _ (by simp [vs]);have f1a:¬W1.heap.size=l.F:=b10;have f1b:¬l.F=W1.heap.size:=b10;have hm2:K<W1.heap.size:=HKh.out;have f2a:¬W1.heap.size=K:=b10;have f2b:¬K=W1.heap.size:=b10;exact km124):p:=h
theorem cm125 {p : Prop} (h:p:=by
 rintro e w4 ⟨y,rfl,hpl,hown,hb⟩;have HFR:Hid (Fr w x (w4.alloc (Obj.cells #[.slice y.oa y.o.length y.oc,.slice y.ta y.t.length y.tc] 83)) (w.heap.size+2) (w.heap.size+1) w4.heap.size y):=Fr.start k0 k1 HR2.out HB2.out (Nat.lt_succ_self _) (Nat.lt_succ_self _) hl2 hown hb;have HPL:=Hd hpl;obtain ⟨w6,hw6⟩:∃w6,w6=w4.alloc (Obj.cells #[.slice y.oa y.o.length y.oc,.slice y.ta y.t.length y.tc] 83):=⟨_,rfl⟩
 obtain ⟨O,hO⟩:∃O,O=w4.heap.size:=⟨_,rfl⟩
 rw [←hw6,←hO] at HFR;clear hpl hown hb HC k0 k1;exact km125):p:=h
theorem cm126 {p : Prop} (h:p:=by
 generalize hwB:(((w5.setCell ⟨W.heap.size+1,0,none⟩ (.int .i64 13)).setCell ⟨W.heap.size+1,1,none⟩ (.int .i64 0)).setCell ⟨W.heap.size+1,2,none⟩ (.string ⟨#[]⟩)).setCell ⟨W.heap.size+1,3,none⟩ (.nilFunc)=w9 at *;have HP:Bx2 W w9 W.heap.size (W.heap.size+1) cs [.int .i64 13,.int .i64 0,.string ⟨#[]⟩,.nilFunc]:=by rw [←hwB];exact HX.out.putR [.int .i64 13,.int .i64 0,.string ⟨#[]⟩,.nilFunc] rfl
 skip
 clear r0 r1 r2 r3 rc0 rc1 rc2 rc3;obtain ⟨⟨q0,q1,q2,q3⟩,_,_⟩:=At.four HP.r;exact km126):p:=h
theorem cm127 {p : Prop} (h:p:=by
 generalize hwB:(((w5.setCell ⟨W.heap.size+1,0,none⟩ (.int .i64 2)).setCell ⟨W.heap.size+1,1,none⟩ (.int .i64 0)).setCell ⟨W.heap.size+1,2,none⟩ (.string ⟨#[]⟩)).setCell ⟨W.heap.size+1,3,none⟩ (.nilFunc)=w9 at *;have HP:Bx2 W w9 W.heap.size (W.heap.size+1) cs [.int .i64 2,.int .i64 0,.string ⟨#[]⟩,.nilFunc]:=by rw [←hwB];exact HX.out.putR [.int .i64 2,.int .i64 0,.string ⟨#[]⟩,.nilFunc] rfl
 skip
 clear r0 r1 r2 r3 rc0 rc1 rc2 rc3;obtain ⟨⟨q0,q1,q2,q3⟩,_,_⟩:=At.four HP.r;exact km127):p:=h
theorem cm128 {p : Prop} (h:p:=by
 have HX0:=HX;replace HX:=Hd (HX.out.below Br.drew);have hT:W.heap.size<W2.heap.size:=HX0.out.t.hi;have hM:l.M<W2.heap.size:=(HM.out.below HX0.out.bel).m.hi;have e1:¬W2.heap.size=W.heap.size:=b10;have e2:¬W.heap.size=W2.heap.size:=b10;have e3:¬W2.heap.size=l.M:=b10;have e4:¬l.M=W2.heap.size:=b10;have hm1:l.F<W2.heap.size:=HM1.out.hi _ (by simp [vs]);have f1a:¬W2.heap.size=l.F:=b10;have f1b:¬l.F=W2.heap.size:=b10;exact km128):p:=h
theorem cm129 {p : Prop} (h:p:=by
 obtain ⟨g4,g5,c1,c2,c3,c4,c5,c6,c7,c8,c9,c10,c11,c12⟩:=HF8.out.wk.own.tabAt k hkt b86;simp only at c1 c2 c3 c4 c5 c6 c7 c8;have hyT:=HYTT.out;have q3:=Q3.out;rw [hyT] at c5 c6 c8;have c8j:=c8 j b10;generalize hcT:(y.t.getD k Tb.nil).c=cT2 at c5 c6 c7;generalize T.getD j 0=zj at c8j;clear hcT;have c9j:=c9 j;have nO:=HF8.out.wk.neT k hkt c4;exact km129):p:=h
theorem cm130 {p : Prop} (h:p:=by
 have hlt':(k:Int)<(l.length:Int):=b10;obtain ⟨g,rfl,hg,hcap,hcel⟩:=HA.out _ HB.out k hlt;obtain ⟨e1,e2,e3⟩:=HR2.out k hlt;have hh:=HH2.out k hlt HF.out;have hnext:inB p (l.getD k Ar.zero)=false→∀j,j<k+1→inB p (l.getD j Ar.zero)=false:=fun h j hj=>by
  by_cases e:j=k
  ·rw [e];exact h
  ·exact HF.out j b10
 have HNX:=Hd hnext;have HHH:=Hd hh;exact km130):p:=h
theorem cm131 {p : Prop} (h:p:=by
 subst hne;obtain ⟨q0,q1,q2,q3,q4,q,q5,q6,q7,q8⟩:=HTB.out rfl;obtain ⟨k,rfl⟩:∃k:Nat,p=(k:Int):=⟨p.toNat,by omega⟩
 rw [Int.toNat_natCast] at q2;have Q2:=Hd q2;have Q3:=Hd q3;subst q6;have HQ:Hid (q<x.o.length):=q5;have HRF:Hid (0≤(x.o.getD q Dn.zero).rf∧(x.o.getD q Dn.zero).rf≤128):=⟨q7,q8⟩
 rw [if_neg b11] at HOE;clear q2 q3 q5 q7 q8;exact km131):p:=h
theorem cm132 {p : Prop} (h:p:=by
 have hqy:q<y.o.length:=by rw [HYO.out];exact HQ.out
 obtain ⟨g3,b1,b2,b3,b4,b5,b6,b7⟩:=HFR.out.wk.own.descAt q hqy;have hrf0:0≤(y.o.getD q Dn.zero).rf∧(y.o.getD q Dn.zero).rf≤128:=by rw [HYO.out];exact HRF.out
 have k4:=b4.c4;have hbu:Hid (bumpL y.o q 1=y.o.set q (bump (y.o.getD q Dn.zero) ((y.o.getD q Dn.zero).rf+1))):=rfl;exact km132):p:=h
theorem cm133 {p : Prop} (h:p:=by
 have hfI:(f:Int)<(s.fs.length:Int):=b10;have hnI:(s.fs.length:Int)≤1000:=b10;go_upto_region 4 with (fail)
 generalize w1.alloc (Obj.cells #[.int .i64 D.fi,.int .i64 D.fl,.int .i64 D.f,.int .i64 D.cu,.int .i64 D.rf] 126)=W1 at *;replace HX:=Hd (HX.out.below HBK.out);generalize w1.heap.size=K at *;have HM1:=Hd (HM.out.below HX.out.bel);have HKN:Hid (W.heap.size+1<K):=HR1;have HKh:Hid (K<W1.heap.size):=Hd HK.out.hi;go_cut [5,6] (fun s5 s6 wx=>∃O,s5=.int .i64 TE∧s6=.pointer (some ⟨O,0,none⟩)∧Hid (Nb W1 wx O [.string TD]))
 case first=>
  exact cm124
 case rest=>
 obtain ⟨O,rfl,rfl,HO⟩:=hcut;replace HX:=Hd (HX.out.below HO.out.bel);replace HK:=Hd (HK.out.below HO.out.bel HK.out.hi);clear HCB;exact km133):p:=h
theorem cm134 {p : Prop} (h:p:=by
 obtain ⟨m',rfl⟩:∃m',m=m'+1:=⟨m-1,by omega⟩
 obtain ⟨g7,d1,d2,d3,d4,d5,d6,d7⟩:=HFM.out.wk.own.descAt m' (by show m'<(O1.take (m'+1)).length;rw [HLM.out];omega);simp only at d1 d4;cases d1;have hgm:(O1.take (m'+1)).getD m' Dn.zero=O1.getD m' Dn.zero:=by
  rw [getD_get (by rw [HLM.out];omega),getD_get b10,List.getElem_take]
 rw [hgm] at d4;have k4:=d4.c4;have HTD:=Hd (take_last O1 m' b10);clear hgm d2 d3 d4 d5;generalize O1.getD m' Dn.zero=e at *;have hm1:(0:Int)<((m'+1:Nat):Int):=b10;have hmc:((m'+1:Nat):Int)-1=(m':Int):=b10;exact km134):p:=h
theorem cm135 {p : Prop} (h:p:=by
 clear hwB x0 x1 x2 x3 x4 k4 c5 c8j c9j b5q hws;have hq9:q<(y.o.set q bu).length:=by rw [List.length_set];exact hqy
 obtain ⟨g3',b1',b2',b3',b4',b5',b6',b7'⟩:=HF9.out.wk.own.descAt q hq9;simp only at b1' b2' b3' b4';rw [hOA] at b1';cases b1';have hgq:(y.o.set q bu).getD q Dn.zero=bu:=by rw [getD_get hq9,List.getElem_set_self]
 rw [hgq] at b4';have k4:=b4'.c4;rw [HRB.out] at k4;obtain ⟨x0,x1,x2,x3,x4⟩:=HF9.out.wk.box.cc;simp only [List.length_set,tset_len,c1,hOA] at x0 x1;exact km135):p:=h
theorem cm136 {p : Prop} (h:p:=by
 rw [hf] at HOE HOF HOD ⊢;have HOE2:Hid (oe=0):=by have:=HOE.out;rw [if_neg b10] at this;exact this
 have HOF2:Hid (of=j):=by have:=HOF.out;rw [if_pos HOE2.out] at this;exact this
 have hod2:=HOD.out;exact km136):p:=h
theorem cm137 {p : Prop} (h:p:=by
 obtain ⟨PR1,PR2⟩:=PR;obtain ⟨rfl,rfl⟩:PR1=_∧PR2=_:=by have:=HE.out.trans (if_neg b11);exact ⟨congrArg Prod.fst this,congrArg Prod.snd this⟩
 exact km137):p:=h
theorem cm138 {p : Prop} (h:p:=by
 clear HFC;obtain ⟨m,HM,HFM⟩:=hrel;obtain ⟨m1,m2,m3⟩:=HM.out;have HTR:=Hd m3;clear m3;have hlm:(O1.take m).length=m:=by rw [List.length_take];omega
 have hmy:(m:Int)≤(y.o.length:Int):=by rw [HL1.out] at m1;omega
 obtain ⟨x0,x1,x2,x3,x4⟩:=HFM.out.wk.box.cc;simp only [hlm,tset_len,c1] at x0 x1;have HLM:=Hd hlm;have hml:=lenAt_of x0;have HML:=Hd hml;clear hlm hml;exact km138):p:=h
end Go.Proofs.YtimhaidiclbnhaaGreat
