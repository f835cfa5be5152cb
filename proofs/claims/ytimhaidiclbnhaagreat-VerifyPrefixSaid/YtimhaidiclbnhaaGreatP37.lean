import Derived.Test.YtimhaidiclbnhaaGreatP32
import Derived.Test.YtimhaidiclbnhaaGreatP33
set_option linter.unusedSimpArgs false
set_option linter.unusedVariables false
set_option maxRecDepth 100000
open Go.ChangeShapes Go.WideShapes Go.ChangeAt Go.RowKit
namespace Go.Proofs.YtimhaidiclbnhaaGreat.Ver
open Des (Dv De Dn DIn DBlk DAns Vi At RowOf ints DSz)
open Ara (Ar ARow)
open Con (StrRow)
namespace Aytp
theorem km0 {p : Prop} (h:p:=by
 have t0:=HL.out.t.cell 0 (.int .i64 4) b26;cases wb
 ·have hfl:andV D.fl 2=0:=by simpa using HWB.out
  exact cm42
 ·have hfl:¬andV D.fl 2=0:=by simpa using HWB.out
  have HE2:=HE.out.trans (if_neg hfl);clear HE;have HE:=Hd HE2;clear HE2;clear hfl;obtain ⟨b1,b2,_⟩:=f_r HRD.out;clear hqF hfI hnI;have k2:=HL.out.k.cell 2 (.int .i64 D.f) (rfl);go_upto_region 23 with (fail)
  go_cut [133] from 130 to 133 (fun s133 wx=>s133=.bool (!(andV D.fl 4==0))∧Hid (Lc true q B W wx l {l with ex:=W.heap.size::(W.heap.size+1)::Kb::l.ex} s Kb cs [I,I,J] [D.fi,D.fl,D.f,D.cu,D.rf]))
  case first=>as_aux_lemma=>
   have k1:=HL.out.k.cell 1 (.int .i64 D.fl) (rfl);go_wp2_with fail;go_meet;exact ⟨rfl,HL⟩
  case rest=>
  obtain ⟨rfl,HL2⟩:=hcut;replace HL:=HL2;clear HL2 k2 t0;generalize hab:(!(andV D.fl 4==0))=ab at *;have hab2:(if andV D.fl 4≠0 then (sd.size:Int) else D.f)=(if ab=true then (sd.size:Int) else D.f):=by rw [←hab];by_cases h4:andV D.fl 4=0<;>simp [h4]
  rw [hab2] at HE;clear hab2 hab;go_upto_if 133 with (fail)
  go_cut [17] from 134 to 135 (fun s17 wx=>s17=.int .i64 (if ab=true then (sd.size:Int) else D.f)∧Hid (Lc true q B W wx l {l with ex:=W.heap.size::(W.heap.size+1)::Kb::l.ex} s Kb cs [I,I,J] [D.fi,D.fl,D.f,D.cu,D.rf]))
  case first=>as_aux_lemma=>
   cases ab
   ·go_wp2_with fail;go_meet;exact ⟨rfl,HL⟩
   ·go_wp2_with fail;go_meet;exact ⟨rfl,HL⟩
  case rest=>
  obtain ⟨rfl,HL2⟩:=hcut;replace HL:=HL2;clear HL2;have hat:0≤(if ab=true then (sd.size:Int) else D.f)∧(if ab=true then (sd.size:Int) else D.f)≤128:=by split<;>omega
  generalize (if ab=true then (sd.size:Int) else D.f)=AT at *;obtain ⟨at0,at1⟩:=hat;have hwr:wrap64 (128-AT)=128-AT:=IntWalk.wrap64_in _ b10;have t7:=HL.out.t.cell 7 (.string o.dat) b13;by_cases hb:128-AT<(o.dat.size:Int)
  ·as_aux_lemma=>
   obtain rfl:PR=_:=HE.out.trans (if_pos hb);clear HE;have HZ9:Hid (Z=s):=Hd (HZ.out.trans b11);clear HZ;exact cl3
  ·as_aux_lemma=>
   have HE2:=HE.out.trans (if_neg hb);clear HE;have HE:=Hd HE2;clear HE2;by_cases hd:o.dat.size=0
   ·as_aux_lemma=>
    obtain rfl:PR=_:=HE.out.trans (if_pos hd);clear HE;have HZ9:Hid (Z=s):=Hd (HZ.out.trans b11);clear HZ;have hd0:¬(0:Int)<(o.dat.size:Int):=b10;clear hd;cases b
    ·as_aux_lemma=>
     exact cl12
    ·as_aux_lemma=>
     exact cl12
   ·as_aux_lemma=>
    obtain rfl:PR=_:=HE.out.trans (if_neg hd);clear HE;have hd0:(0:Int)<(o.dat.size:Int):=b10;clear hd;have HW:=Hd (fun W'=>HCA.out sd AT W' hsd);clear HCA;generalize (Con.writeV sd AT o.dat).1=TD at *;generalize (Con.writeV sd AT o.dat).2=TE at *;cases b
    ·as_aux_lemma=>
     have HZ9:Hid (Z=s):=Hd (HZ.out.trans b11);clear HZ;exact cl12
    ·as_aux_lemma=>
     have HZ9:Hid (Z=chS {s with d:=Des.updD s.d nv (AT+(o.dat.size:Int)) D.cu} f TD):=Hd (HZ.out.trans b11);clear HZ;go_wp2_with fail;refine (HW.out _).mono ?_;rintro e w5 ⟨rfl,hb2⟩;replace HL:=Hd (HL.out.below hb2);clear hb2 HW t7;have k0:=HL.out.k.cell 0 (.int .i64 (f:Int)) b18;go_wp2_with fail;refine (changeM_any q B {l with ex:=W.heap.size::(W.heap.size+1)::Kb::l.ex} (s) f TD w5 HL.out.m hfn b61 HOK.out.nf b113).mono ?_;rintro e w7 ⟨hs2,rfl,hm2,hv2⟩;have HL4:=Hd (HL.out.stepH hs2 hm2 hv2);clear hm2 hv2;clear k0;have hwr2:wrap64 (AT+(o.dat.size:Int))=AT+(o.dat.size:Int):=IntWalk.wrap64_in _ b10;obtain ⟨⟨k0,k1,k2,k3,k4⟩,_,_⟩:=Des.At.five HL4.out.k;have t7:=HL4.out.t.cell 7 (.string o.dat) b13;go_wp2_with fail;refine (offset_any q B {l with ex:=W.heap.size::(W.heap.size+1)::Kb::l.ex,hs:=hs2} (chS s f TD) nv (AT+(o.dat.size:Int)) D w7 HL4.out.m HOK.out.rt).mono ?_;rintro e w6 ⟨y,rfl,hpl,hm2,hv2⟩;have HL3:=Hd (HL4.out.stepV y hm2 hv2);rw [hpl] at HL3;clear hm2 hv2 hpl k0 k1 k2 k3 k4;clear t7;have t7:=HL3.out.t.cell 7 (.string o.dat) b13;obtain ⟨⟨rc0,rc1,rc2⟩,⟨r0,r1,r2⟩,rh⟩:=At.three HL3.out.r;go_wp2_with fail;change bodyPost _ _ _ _ _ (((w6.setCell (W 1 0) I).setCell (W 1 1) o.dat.size).setCell (W 1 2) J);generalize hwB:((w6.setCell (W 1 0) I).setCell (W 1 1) o.dat.size).setCell (W 1 2) J=w9 at *;have HQ:Hid (At w9 (W.heap.size+1) [I,o.dat.size,J]):=by rw [←hwB];exact Hd (HL3.out.finA ⟨0,(o.dat.size:Int),⟨#[]⟩⟩ rfl)
     clear rc0 rc1 rc2 r0 r1 r2 rh;obtain ⟨⟨q0,q1,q2⟩,_,_⟩:=At.three HQ.out;exact bodyPost_ret (v:=.agg #[I,o.dat.size,J]) b22 rfl (by (try rw [HZ9.out]);rw [←hwB];exact HL3.out.fin ⟨0,(o.dat.size:Int),⟨#[]⟩⟩ rfl HEX.out b20)):p:=h
theorem km20 {p : Prop} (h:p:=by
 by_cases hz:le=0
 ·subst hz;have HE2:=HE.out.trans (if_neg b11);clear HE;have HE:=Hd HE2;clear HE2;exact cm0
 ·exact cl2):p:=h
theorem km42 {p : Prop} (h:p:=by
 exact cl5):p:=h
theorem km48 {p : Prop} (h:p:=by
 have HE:=Hd (write_eq ok.rt okr hp (o:=o));exact cm96):p:=h
theorem km75 {p : Prop} (h:p:=by
 obtain ⟨Z,hZ⟩:∃Z,Z=(if b=true then (writeR s p o).2 else s):=⟨_,rfl⟩
 rw [←hZ];have HZ:=Hd hZ;clear hZ;generalize (writeR s p o)=PR at *;unfold atV at HE;generalize Des.numE s.d p o.fd=le at *;generalize Des.lookV s.d p o.fd=D at *;generalize Des.numV s.d p o.fd=nv at *;exact cm20):p:=h
theorem km96 {p : Prop} (h:p:=by
 exact cm119):p:=h
theorem km119 {p : Prop} (h:p:=by
 exact cm75):p:=h
end Aytp
open Aytp in
set_option maxHeartbeats 16000000 in
theorem byd_write (K:Nat) (q:Rq) (B:Nat) (l:Ly) (s:St) (p:Nat) (o:Opr) (b:Bool) (W:World) (h:Rm q B W l s) (ok:Ok K s) (okr:Okr K s) (hp:p<s.scr.length) (hkd:o.kd=4) (hK:K≤9000) (hdat:o.dat.size≤1000):
 Calls Tryz.prog 35 #[.pointer (some (l.M 0)),p,opVal o,.bool b] W (RefP b q B W l (writeR s p o).1 (if b=true then (writeR s p o).2 else s)):=by
 exact cm48
section
variable {q:Rq} {B:Nat} {W0 W:World} {l:Ly} {s:St}
theorem Rm.moveM (h0:Rm q B W0 l s) (hb:Below W0 W0 W) {M':Nat} (hM:At W M' (rC q l s)) (hlo:W0.heap.size≤M'):Rm q B W {l with M:=M'} s:=by
 have hi:=h0.g.hi;have hv:∀b,b∈vx {l with M:=M'}→b∈vx l∨W0.heap.size≤b:=fun b hm=>by
  rcases List.mem_append.1 hm with h1|h1
  ·unfold vs at h1;rcases List.mem_append.1 h1 with h2|h2
   ·rcases List.mem_cons.1 h2 with rfl|h3
    ·exact Or.inr hlo
    ·exact Or.inl (List.mem_append.2 (Or.inl (List.mem_append.2 (Or.inl (List.mem_cons_of_mem _ h3)))))
   ·exact Or.inl (List.mem_append.2 (Or.inl (List.mem_append.2 (Or.inr h2))))
  ·exact Or.inl (List.mem_append.2 (Or.inr h1))
 have hlo2:∀b,b∈vx {l with M:=M'}→B≤b:=fun b hm=>by
  rcases hv b hm with h1|h1
  ·exact h0.g.lox b h1
  ·have:=h0.g.hB;omega
 have him:Im B W l s (vx {l with M:=M'}):=(h0.g.im.vs hv).keep (Vk.ofBelow hb) hlo2 h0.g.hB;have h:=h0.below hb;refine ⟨⟨⟨him.di,him.dp,him.ra,him.rh,him.sc⟩,hM,h.g.f,h.g.a,h.g.la,h.g.r,h.g.h,h.g.S,h.g.n,h.g.b,h.g.rs,?_,fun b hm=>hlo2 b (List.mem_append.2 (Or.inl hm)),h.g.hB,h.g.la',h.g.lh',h.g.lr',h.g.hx⟩,h.cf,h.ch,h.cs⟩;have hnd:=h0.g.nd;unfold vs at hnd ⊢;rw [List.cons_append,List.nodup_cons] at hnd ⊢;exact ⟨fun hm=>by
  have:=hi M' (by unfold vs;exact List.mem_cons_of_mem _ hm);omega,hnd.2⟩
theorem Rm.tm (h:Rm q B W l s) (z:Int):Rm q B W l {s with tm:=z}:=
 ⟨⟨⟨h.g.im.di,h.g.im.dp,h.g.im.ra,h.g.im.rh,h.g.im.sc⟩,h.g.m,h.g.f,h.g.a,h.g.la,h.g.r,h.g.h,h.g.S,h.g.n,h.g.b,h.g.rs,h.g.nd,h.g.lo,h.g.hB,h.g.la',h.g.lh',h.g.lr',h.g.hx⟩,h.cf,h.ch,h.cs⟩
end
namespace A6y0
theorem km12 {p : Prop} (h:p:=by
 split;rfl;split;rfl;split<;>rfl):p:=h
end A6y0
open A6y0 in
theorem plan_res (s:St) (st':List (List Int)) (f b:List Int) (t:Int) (p:Nat) (o:Opr) (x y:Ev):(planR {s with st:=st',fin:=f,bg:=b,tm:=t} p o x).1=(planR s p o y).1:=by
 unfold planR;split
 ·unfold openedR;split;rfl;split<;>rfl
 ·unfold closedR;split<;>rfl
 ·unfold readR;have e:lkE {s with st:=st',fin:=f,bg:=b,tm:=t} (p:Int) o.fd 1=lkE s (p:Int) o.fd 1:=rfl;rw [e];split;rfl;split<;>rfl
 ·unfold writeR;have e:lkE {s with st:=st',fin:=f,bg:=b,tm:=t} (p:Int) o.fd 2=lkE s (p:Int) o.fd 2:=rfl;rw [e];simp only;exact cm12
 ·unfold seekR;have e:lkE {s with st:=st',fin:=f,bg:=b,tm:=t} (p:Int) o.fd 0=lkE s (p:Int) o.fd 0:=rfl;rw [e];split;rfl;split<;>rfl
 ·unfold truncateR;have e:lkE {s with st:=st',fin:=f,bg:=b,tm:=t} (p:Int) o.fd 2=lkE s (p:Int) o.fd 2:=rfl;rw [e];split;rfl;split<;>rfl
 ·unfold punchR;have e:lkE {s with st:=st',fin:=f,bg:=b,tm:=t} (p:Int) o.fd 2=lkE s (p:Int) o.fd 2:=rfl;rw [e];split;rfl;split<;>rfl
 ·unfold syncR;have e:lkE {s with st:=st',fin:=f,bg:=b,tm:=t} (p:Int) o.fd 0=lkE s (p:Int) o.fd 0:=rfl;rw [e];split<;>rfl
 ·unfold mappedR;have e:lkE {s with st:=st',fin:=f,bg:=b,tm:=t} (p:Int) o.fd 1=lkE s (p:Int) o.fd 1:=rfl;rw [e];split;rfl;split;rfl;split;rfl;split;rfl;split<;>rfl
 ·unfold unmapR;split<;>rfl
 ·unfold loadR;have e:adB {s with st:=st',fin:=f,bg:=b,tm:=t} p o=adB s p o:=rfl;have e2:adA {s with st:=st',fin:=f,bg:=b,tm:=t} p o=adA s p o:=rfl;have e3:adN {s with st:=st',fin:=f,bg:=b,tm:=t} p o=adN s p o:=rfl;rw [e,e2,e3];dsimp only;split;rfl;split<;>rfl
 ·unfold storeR;have e:adB {s with st:=st',fin:=f,bg:=b,tm:=t} p o=adB s p o:=rfl;have e2:adA {s with st:=st',fin:=f,bg:=b,tm:=t} p o=adA s p o:=rfl;have e3:adN {s with st:=st',fin:=f,bg:=b,tm:=t} p o=adN s p o:=rfl;rw [e,e2,e3];dsimp only;split;rfl;split;rfl;split;rfl;split<;>rfl
 ·unfold dupR;split<;>rfl
 ·rfl
structure Right (s0:St) (xs:List Ev):Prop where
 kn:∀x,x∈xs→knB s0 x=true
 ord:∀i,i<xs.length→ordB (stS (runS s0 xs i).1) (i:Int) (xs.getD i Ev.zero)=true
 res:∀i,i<xs.length→(xs.getD i Ev.zero).pr≠-1→evRes (xs.getD i Ev.zero)=(planR (runS s0 xs i).1 (xs.getD i Ev.zero).pr.toNat (opAt s0 (xs.getD i Ev.zero).pr.toNat (xs.getD i Ev.zero).ix.toNat) Ev.zero).1
theorem run_pre (s0:St) (xs:List Ev) (y:Ev) (k:Nat) (hk:k≤xs.length):runS s0 (xs++[y]) k=runS s0 xs k:=by
 induction k with
 |zero=>rfl
 |succ k ih=>
  have e:(xs++[y]).getD k Ev.zero=xs.getD k Ev.zero:=by
   rw [List.getD_eq_getElem?_getD,List.getD_eq_getElem?_getD,List.getElem?_append_left b10]
  unfold runS;rw [ih b10,e]
theorem run_take (s0:St) (xs:List Ev) (k n:Nat) (hk:k≤n):runS s0 (xs.take n) k=runS s0 xs k:=by
 induction k with
 |zero=>rfl
 |succ k ih=>
  have e:(xs.take n).getD k Ev.zero=xs.getD k Ev.zero:=by
   rw [List.getD_eq_getElem?_getD,List.getD_eq_getElem?_getD,List.getElem?_take_of_lt b10]
  unfold runS;rw [ih b10,e]
theorem Right.nil (s0:St):Right s0 []:=⟨fun x hx=>(by cases hx),fun i hi=>absurd hi (Nat.not_lt_zero _),fun i hi=>absurd hi (Nat.not_lt_zero _)⟩
theorem Right.snoc {s0:St} {xs:List Ev} (h:Right s0 xs) (y:Ev) (hk:knB s0 y=true) (ho:ordB (stS (runS s0 xs xs.length).1) (xs.length:Int) y=true) (hr:y.pr≠-1→evRes y=(planR (runS s0 xs xs.length).1 y.pr.toNat (opAt s0 y.pr.toNat y.ix.toNat) Ev.zero).1):Right s0 (xs++[y]):=by
 have el:(xs++[y]).getD xs.length Ev.zero=y:=by simp [List.getD]
 have eo:∀i,i<xs.length→(xs++[y]).getD i Ev.zero=xs.getD i Ev.zero:=fun i hi=>by
  rw [List.getD_eq_getElem?_getD,List.getD_eq_getElem?_getD,List.getElem?_append_left hi]
 refine ⟨fun x hx=>?_,fun i hi=>?_,fun i hi=>?_⟩
 ·rcases List.mem_append.1 hx with h1|h1
  ·exact h.kn x h1
  ·rw [List.mem_singleton.1 h1];exact hk
 ·rw [List.length_append,List.length_singleton] at hi;by_cases h1:i<xs.length
  ·rw [run_pre _ _ _ _ b10,eo i h1];exact h.ord i h1
  ·obtain rfl:i=xs.length:=b10;rw [run_pre _ _ _ _ Nr,el];exact ho
 ·rw [List.length_append,List.length_singleton] at hi;by_cases h1:i<xs.length
  ·rw [run_pre _ _ _ _ b10,eo i h1];exact h.res i h1
  ·obtain rfl:i=xs.length:=b10;rw [run_pre _ _ _ _ Nr,el];exact hr
def StaQ (W:World) (pl sc:Value) (s:St) (e:Ending) (w':World):Prop:=
 ∃(q:Rq) (l:Ly),e=.returned (.agg (rC q l s).toArray)∧Rm q W.heap.size w' l s∧l.pl=pl∧l.sc=sc∧l.ex=[]∧((∀b,DBlk l.x b→W.heap.size≤b)∧(∀i q,(l.ar.getD i Sl.nil).a=some q→W.heap.size≤q.block)∧(∀i q,(l.hs.getD i Sl.nil).a=some q→W.heap.size≤q.block))∧Below W W w'
theorem sl_range (l:List Sl):l=(List.range l.length).map fun i=>l.getD i Sl.nil:=
 ext_getD Sl.nil b11 fun i hi=>by simp [List.getD,hi]
theorem hC_beg (scr:List (List Opr)) (n:Nat) (lst:List ByteArray) (hs:List Sl) (h:hs.length=n):hC hs (stS (begS scr n lst)).h=hs.flatMap fun s=>[.slice s.a 1 s.c,.int .i64 0]:=by
 have e:(stS (begS scr n lst)).h=(List.range n).map fun i=>([(begF n lst).getD i ⟨#[]⟩],0):=by
  show ((List.range n).map fun i=>if i<n then ([(begF n lst).getD i ⟨#[]⟩],(0:Int)) else ([],0))=_;refine List.map_congr_left fun i hi=>?_
  rw [if_pos (List.mem_range.1 hi)]
 rw [e]
 conv=>rhs;rw [sl_range hs,List.flatMap_map]
 unfold hC;rw [List.length_map,List.length_range,h];refine flat_congr _ _ _ fun i hi=>?_
 have hi:=List.mem_range.1 hi;simp [List.getD,hi]
theorem slC_beg (scr:List (List Opr)) (n:Nat) (lst:List ByteArray) (st:List Sl) (h:st.length=n):slC st (stS (begS scr n lst)).st=st.map fun s=>.slice s.a 1 s.c:=by
 conv=>rhs;rw [sl_range st,List.map_map]
 unfold slC;have e:(stS (begS scr n lst)).st.length=n:=by
  show (stAt _ _).length=n;rw [stAt_len];simp [begS,begK]
 rw [e,h];refine List.map_congr_left fun i hi=>?_
 have hi:=List.mem_range.1 hi;have e2:((stS (begS scr n lst)).st.getD i []).length=1:=by
  show ((stAt _ _).getD i []).length=1;have hl:(begS scr n lst).st.length=n:=by simp [begS,begK]
  rw [stAt_get _ _ i b10,if_pos b10];simp [begS,begK,List.getD,hi]
 rw [e2];rfl
theorem st_beg (scr:List (List Opr)) (n:Nat) (lst:List ByteArray) (i:Nat) (hi:i<n):(stS (begS scr n lst)).st.getD i []=[1]:=by
 show (stAt _ _).getD i []=[1]
 have hl:(begS scr n lst).st.length=n:=by simp [begS,begK]
 rw [stAt_get _ _ i b10,if_pos b10];simp [begS,begK,List.getD,hi]
section
variable {W w:World} {pl sc:Value} {n n0:Nat} {β:Nat→Nat} {y:Dv} {v3 v6 v7:Value} {hs st:List Sl} {scr:List (List Opr)} {lst:List ByteArray}
theorem own_some {e size m:Nat} {v:Value} {xs:List Value} (h:w.ownsRow n0 e size v m xs) (hm:1≤m):∃g cap,v=.slice (some ⟨g,0,none⟩) m cap∧m≤cap∧n0≤g∧∃cur,w.heap[g]? =some (.cells cur e (0,0)):=by
 rcases h.2 with ⟨_,h1⟩|⟨g,cap,cur,h1,h2,h3,h4,_⟩
 ·omega
 ·exact ⟨g,cap,h1,h4,h2,cur,h3⟩
theorem start_mm (hM:At w (β 5) (rZ pl sc (.slice y.oa y.o.length y.oc) (.slice y.ta y.t.length y.tc) n scr.length β v3 v6 v7))
 (hal:∀j,j<5→W.heap.size≤β j∧β j<n0∧At w (β j) ((zsR n scr.length).getD j ([],0)).1) (h5:W.heap.size≤β 5∧β 5<n0)
 (ne:∀i j,i<6→j<6→i≠j→β i≠β j) (hy:DIn w y) (hyl:∀b,DBlk y b→W.heap.size≤b∧b<n0∧∀j,j<6→b≠β j) (hp:y.pl=Des.newD scr.length) (hsc:ScIn W.heap.size w sc scr) (hn:1≤n)
 (hb:Bs n0 w lst n n n v3 v6 v7 hs st) (hB:Below W W w):∃(q:Rq) (l:Ly),rC q l (stS (begS scr n lst))=rZ pl sc (.slice y.oa y.o.length y.oc) (.slice y.ta y.t.length y.tc) n scr.length β v3 v6 v7∧Rm q W.heap.size w l (stS (begS scr n lst))∧l.pl=pl∧l.sc=sc∧l.ex=[]∧((∀b,DBlk l.x b→W.heap.size≤b)∧(∀i q,(l.ar.getD i Sl.nil).a=some q→W.heap.size≤q.block)∧(∀i q,(l.hs.getD i Sl.nil).a=some q→W.heap.size≤q.block))∧Below W W w:=by
 obtain ⟨gF,cF,rfl,lF,oF,uF,tF⟩:=own_some hb.cf hn;obtain ⟨gH,cH,rfl,lH,oH,uH,tH⟩:=own_some hb.ch hn;obtain ⟨gS,cS,rfl,lS,oS,uS,tS⟩:=own_some hb.cs hn;have hls:=hb.ls;have hlh:=hb.lh;have eFH:gF≠gH:=fun e=>by rw [e,tH] at tF;cases tF
 have eFS:gF≠gS:=fun e=>by rw [e,tS] at tF;cases tF
 have eHS:gH≠gS:=fun e=>by rw [e,tS] at tH;cases tH
 have hstb:∀b,b∈stB st→n0≤b∧Bl w b [(1:Int)] 3:=fun b hm=>by
  unfold stB at hm;obtain ⟨s,hs1,hs2⟩:=List.mem_filterMap.1 hm;obtain ⟨i,hi,he⟩:=List.mem_iff_getElem.1 hs1;obtain ⟨c,h1,h2,h3⟩:=hb.si i b10;have e3:st.getD i Sl.nil=s:=by simp [List.getD,hi,he]
  rw [e3] at h1;rw [h1] at hs2;simp at hs2;subst hs2;exact ⟨h2,h3⟩
 have b0:=hal 0 b10;have b1:=hal 1 b10;have b2:=hal 2 b10;have b3:=hal 3 b10;have b4:=hal 4 b10;have hW0:W.heap.size≤n0:=b10;have hvs:vs {M:=β 5,F:=gF,A:=β 1,L:=β 2,R:=β 0,H:=gH,S:=gS,N:=β 3,B:=β 4,pl:=pl,sc:=sc,x:=y,ar:=List.replicate scr.length Sl.nil,hs:=hs,st:=st}=[β 5,gF,β 1,β 2,β 0,gH,gS,β 3,β 4]++stB st:=rfl;have hmem:∀b,b∈[β 5,gF,β 1,β 2,β 0,gH,gS,β 3,β 4]++stB st→(b=gF∨b=gH∨b=gS∨b∈stB st)∨∃j,j<6∧b=β j:=fun b hm=>by
  rcases List.mem_append.1 hm with h1|h1
  ·simp only [List.mem_cons,List.not_mem_nil,or_false] at h1;rcases h1 with h1|h1|h1|h1|h1|h1|h1|h1|h1
   ·exact Or.inr ⟨5,by omega,h1⟩
   ·exact Or.inl (Or.inl h1)
   ·exact Or.inr ⟨1,by omega,h1⟩
   ·exact Or.inr ⟨2,by omega,h1⟩
   ·exact Or.inr ⟨0,by omega,h1⟩
   ·exact Or.inl (Or.inr (Or.inl h1))
   ·exact Or.inl (Or.inr (Or.inr (Or.inl h1)))
   ·exact Or.inr ⟨3,by omega,h1⟩
   ·exact Or.inr ⟨4,by omega,h1⟩
  ·exact Or.inl (Or.inr (Or.inr (Or.inr h1)))
 have hbeta:∀j,j<6→W.heap.size≤β j∧β j<n0:=fun j hj=>by
  by_cases e:j=5
  ·subst e;exact h5
  ·have:=hal j b10;exact ⟨this.1,this.2.1⟩
 have hout:∀b,b∈[β 5,gF,β 1,β 2,β 0,gH,gS,β 3,β 4]++stB st→W.heap.size≤b:=fun b hm=>by
  rcases hmem b hm with (h1|h1|h1|h1)|⟨j,hj,h1⟩
  ·omega
  ·omega
  ·omega
  ·have:=(hstb b h1).1;omega
  ·have:=hbeta j hj;omega
 have hnin:∀b,n0≤b→b≠gF→b≠gH→b≠gS→b∉stB st→b∉[β 5,gF,β 1,β 2,β 0,gH,gS,β 3,β 4]++stB st:=fun b h1 h2 h3 h4 h6 hm=>by
  rcases hmem b hm with (h1|h1|h1|h1)|⟨j,hj,h1⟩
  ·exact h2 h1
  ·exact h3 h1
  ·exact h4 h1
  ·exact h6 h1
  ·have:=hbeta j hj;omega
 have eC:rC ⟨cF,cH,cS⟩ {M:=β 5,F:=gF,A:=β 1,L:=β 2,R:=β 0,H:=gH,S:=gS,N:=β 3,B:=β 4,pl:=pl,sc:=sc,x:=y,ar:=List.replicate scr.length Sl.nil,hs:=hs,st:=st} (stS (begS scr n lst))=rZ pl sc (.slice y.oa y.o.length y.oc) (.slice y.ta y.t.length y.tc) n scr.length β (.slice (some (gF 0)) n cF) (.slice (some (gH 0)) n cH) (.slice (some (gS 0)) n cS):=by
  have e1:(stS (begS scr n lst)).scr.length=scr.length:=rfl;have e2:(stS (begS scr n lst)).fs.length=n:=begF_len n lst;unfold rC;rw [e1,e2];rfl
 have nz:∀{b:Nat} {cs:List Value} {t e:TypeId} {u:Array Value} {g:Nat},Bl w b cs t→w.heap[g]? =some (.cells u e (0,0))→t≠e→b≠g:=fun h1 h2 h3 e=>by
  subst e;exact h3 (bl_ty h1 h2)
 refine ⟨⟨cF,cH,cS⟩,{M:=β 5,F:=gF,A:=β 1,L:=β 2,R:=β 0,H:=gH,S:=gS,N:=β 3,B:=β 4,pl:=pl,sc:=sc,x:=y,ar:=List.replicate scr.length Sl.nil,hs:=hs,st:=st},eC,⟨⟨⟨⟨hy,fun b hd hm=>?_⟩,?_,fun i hi=>?_,fun i hi=>?_,hsc⟩,?_,?_,?_,?_,?_,?_,?_,?_,?_,fun i hi=>?_,?_,?_,hB.size,?_,?_,?_,fun b hb=>by cases hb⟩,?_,?_,?_⟩,rfl,rfl,rfl,⟨fun b hd=>(hyl b hd).1,fun i q hq=>?_,fun i q hq=>?_⟩,hB⟩
 ·have hm2:b∈[β 5,gF,β 1,β 2,β 0,gH,gS,β 3,β 4]++stB st:=by
   rcases List.mem_append.1 hm with h1|h1
   ·exact h1
   ·cases h1
  obtain ⟨_,q2,q3⟩:=hyl b hd;rcases hmem b hm2 with (h1|h1|h1|h1)|⟨j,hj,h1⟩
  ·omega
  ·omega
  ·omega
  ·have:=(hstb b h1).1;omega
  ·exact q3 j hj h1
 ·rw [hp];rfl
 ·have hi:i<scr.length:=by simpa [stS,stK,begS,begK] using hi
  show ARow 0 ((List.replicate scr.length Sl.nil).getD i Sl.nil).a _ ((List.replicate scr.length []).getD i []) w∧_;simp only [getD_repl _ _ _ _ hi];exact ⟨Or.inl ⟨rfl,rfl,rfl⟩,fun q hq=>by cases hq⟩
 ·have hi:i<n:=by simpa [stS,stK,begS,begK] using hi
  have e:((stS (begS scr n lst)).h.getD i ([],0)).1=[lst.getD i ⟨#[]⟩]:=by
   show (((List.range n).map fun i=>if i<n then ([(begF n lst).getD i ⟨#[]⟩],(0:Int)) else ([],0)).getD i ([],0)).1=_;simp [List.getD,hi,begF]
  obtain ⟨g,g1,g2,g3,g4⟩:=hb.hi i hi;rw [e,g1];refine ⟨Or.inr ⟨g,rfl,Nat.zero_le _,g3.hi,Nat.le_refl _,(by decide:1≤maxLen),fun j hj=>?_⟩,fun q hq hm=>?_⟩
  ·obtain rfl:j=0:=by simpa using hj
   exact g3.at.cell 0 _ rfl
  ·cases hq;have hm2:g∈[β 5,gF,β 1,β 2,β 0,gH,gS,β 3,β 4]++stB st:=by
    rcases List.mem_append.1 hm with h1|h1
    ·exact h1
    ·cases h1
   exact hnin g g2 (fun e => g4 (by rw [e]; rfl)) (nz g3 tH b14) (nz g3 tS b14) (fun h1=>by
    have h2:=(hstb g h1).2;unfold Bl at h2 g3;rw [g3] at h2;cases h2) hm2
 ·show At w (β 5) _;rw [eC];exact hM
 ·have h1:=(At.ofOwn hb.cf).1;show At w gF ((begF n lst).map Value.string);unfold begF;rw [List.map_map];exact h1
 ·have h1:=b1.2.2;show At w (β 1) ((List.replicate n (0:Int)).map _);rw [List.map_replicate];exact h1
 ·have h1:=b2.2.2;show At w (β 2) ((List.replicate n (0:Int)).map _);rw [List.map_replicate];exact h1
 ·have h1:=b0.2.2;show At w (β 0) (slC (List.replicate scr.length Sl.nil) (List.replicate scr.length []));rw [slC_nil];exact h1
 ·have h1:=(At.ofOwn hb.ch).1;show At w gH (hC hs _);rw [hC_beg scr n lst hs hlh];exact h1
 ·have h1:=(At.ofOwn hb.cs).1;show At w gS (slC st _);rw [slC_beg scr n lst st hls];exact h1
 ·have h1:=b3.2.2;show At w (β 3) ((List.replicate scr.length (0:Int)).map _);rw [List.map_replicate];exact h1
 ·have h1:=b4.2.2;show At w (β 4) ((List.replicate scr.length (0:Int)).map _);rw [List.map_replicate];exact h1
 ·have hi:i<n:=by
   have:(stS (begS scr n lst)).st.length=n:=by
    show (stAt _ _).length=n;rw [stAt_len];simp [begS,begK]
   omega
  rw [st_beg scr n lst i hi];obtain ⟨g,g1,g2,g3⟩:=hb.si i hi;show w.ownsRow _ 3 1 (.slice (st.getD i Sl.nil).a 1 (st.getD i Sl.nil).c) 1 _;rw [g1];exact ⟨rfl,Or.inr ⟨g,1,#[(1:Int)],rfl,by omega,g3,Nat.le_refl _,(by decide:1≤maxLen),rfl,rfl⟩⟩
 ·rw [hvs,List.nodup_append];refine ⟨?_,hb.sn,fun x hx y hy2 e=>?_⟩
  ·have n01:=ne 0 1 b10 b10 b10;have n02:=ne 0 2 b10 b10 b10;have n03:=ne 0 3 b10 b10 b10;have n04:=ne 0 4 b10 b10 b10;have n05:=ne 0 5 b10 b10 b10;have n12:=ne 1 2 b10 b10 b10;have n13:=ne 1 3 b10 b10 b10;have n14:=ne 1 4 b10 b10 b10;have n15:=ne 1 5 b10 b10 b10;have n23:=ne 2 3 b10 b10 b10;have n24:=ne 2 4 b10 b10 b10;have n25:=ne 2 5 b10 b10 b10;have n34:=ne 3 4 b10 b10 b10;have n35:=ne 3 5 b10 b10 b10;have n45:=ne 4 5 b10 b10 b10;obtain ⟨_,c0,_⟩:=b0;obtain ⟨_,c1,_⟩:=b1;obtain ⟨_,c2,_⟩:=b2;obtain ⟨_,c3,_⟩:=b3;obtain ⟨_,c4,_⟩:=b4;obtain ⟨_,c5⟩:=h5;clear ne hal hmem hbeta hout hnin nz hstb hyl hvs eC;simp only [List.nodup_cons,List.mem_cons,List.not_mem_nil,or_false,not_or,not_false_eq_true,List.nodup_nil,and_true];refine ⟨⟨?_,?_,?_,?_,?_,?_,?_,?_⟩,⟨?_,?_,?_,?_,?_,?_,?_⟩,⟨?_,?_,?_,?_,?_,?_⟩,⟨?_,?_,?_,?_,?_⟩,⟨?_,?_,?_,?_⟩,⟨?_,?_,?_⟩,⟨?_,?_⟩,?_⟩<;>first|assumption|omega
  ·obtain ⟨d1,d2⟩:=hstb y hy2;subst e;simp only [List.mem_cons,List.not_mem_nil,or_false] at hx;rcases hx with h1|h1|h1|h1|h1|h1|h1|h1|h1
   ·omega
   ·exact nz d2 tF b14 h1
   ·omega
   ·omega
   ·omega
   ·exact nz d2 tH b14 h1
   ·exact nz d2 tS b14 h1
   ·omega
   ·omega
 ·exact hout
 ·show st.length=(stAt _ _).length;rw [stAt_len,hls];simp [begS,begK]
 ·show hs.length=((List.range n).map _).length;simp [hlh]
 ·simp [stS,stK,begS,begK]
 ·show (begF n lst).length≤cF;rw [begF_len];exact lF
 ·show (begF n lst).length≤cH;rw [begF_len];exact lH
 ·show (begF n lst).length≤cS;rw [begF_len];exact lS
 ·rcases Nat.lt_or_ge i scr.length with h|h
  ·simp only [getD_repl _ _ _ _ h] at hq;cases hq
  ·simp [List.getD,h,Sl.nil] at hq
 ·rcases Nat.lt_or_ge i n with h|h
  ·obtain ⟨g,g1,g2,g3,g4⟩:=hb.hi i h;simp only at hq;rw [g1] at hq;cases hq;show W.heap.size≤g;omega
  ·simp only [List.getD] at hq;rw [List.getElem?_eq_none b10] at hq;cases hq
end
end Go.Proofs.YtimhaidiclbnhaaGreat.Ver
