import Derived.Test.YtimhaidiclbnhaaGreatP36
import Derived.Test.YtimhaidiclbnhaaGreatP39
set_option linter.unusedSimpArgs false
set_option linter.unusedVariables false
set_option maxRecDepth 100000
open Go.ChangeShapes Go.WideShapes Go.ChangeAt Go.RowKit
namespace Go.Proofs.YtimhaidiclbnhaaGreat.Ver
open Des (Dv De Dn DIn DBlk DAns Vi At RowOf ints DSz)
open Ara (Ar ARow)
open Con (StrRow)
namespace Apnv
theorem km0 {p : Prop} (h:p:=by
 have t0:=HL.out.t.cell 0 (.int .i64 2) b26;cases b
 ·have HZ9:Hid (Z=s):=Hd (HZ.out.trans b11);clear HZ;exact cl14
 ·have HZ9:Hid (Z={s with d:=DD}):=Hd (HZ.out.trans b11);clear HZ;go_upto_region 9 with (fail)
  replace HL:=Hd (HL.out.below Br.drew);clear t0;have t1:=HL.out.t.cell 1 (.int .i64 o.fd) b13;exact cm69):p:=h
theorem km20 {p : Prop} (h:p:=by
 by_cases hz:le=0
 ·subst hz;obtain rfl:PR=_:=HE.out.trans (if_neg b11);clear HE;exact cm0
 ·exact cl2):p:=h
theorem km48 {p : Prop} (h:p:=by
 have HE:=Hd (close_eq ok.rt okr hp (o:=o));exact cm96):p:=h
theorem km69 {p : Prop} (h:p:=by
 (first|go_region_with (first|(go_at_call 56;refine (HCL.out _ _ HL.out.m rfl).mono ?_;rintro e w2 ⟨y,rfl,hpl,ha,hb⟩;have HA:=Hd ha;have HPL:=Hd hpl;have HL2:=Hd (HL.out.below hb);clear ha hpl hb t1 mO mP z0 z1 z2;have z0:w2.frozen? (l.M 21)=false:=HL2.out.m.free 21 b10;have z1:w2.frozen? (l.M 22)=false:=HL2.out.m.free 22 b10;have z2:l.M<w2.heap.size:=HL2.out.m.g.m.hi;have mO:w2.cell? (l.M 21)=some (.slice l.x.oa l.x.o.length l.x.oc):=HL2.out.m.cO.1;have mP:w2.cell? (l.M 22)=some (.slice l.x.ta l.x.t.length l.x.tc):=HL2.out.m.cO.2;have t1:=HL2.out.t.cell 1 (.int .i64 o.fd) b13))|fail)
 all_goals
  generalize hw3:(w2.setCell (l.M 21) (.slice y.oa y.o.length y.oc)).setCell (l.M 22) (.slice y.ta y.t.length y.tc)=w3 at *;have HL3:Hid (Lc false q B W w3 l {l with ex:=W.heap.size::(W.heap.size+1)::Kb::l.ex,x:=y} {s with d:=y.pl} Kb cs [I,I,J] [D.fi,D.fl,D.f,D.cu,D.rf]):=by rw [←hw3];exact Hd (HL2.out.stepV y (HL2.out.m.putO y (HA.out.vi HL.out.m.g.im.di (fun b hb=>HL.out.m.g.hix b hb))) ((Vk.set _ _ _ _ (mvs _).1).trans (Vk.set _ _ _ _ (mvs _).1)))
  rw [HPL.out] at HL3;clear hw3 z0 z1 z2 mO mP HL HL2 HA HPL t1;obtain ⟨⟨rc0,rc1,rc2⟩,⟨r0,r1,r2⟩,rh⟩:=At.three HL3.out.r;go_wp2_with fail;change bodyPost _ _ _ _ _ (((w3.setCell (W 1 0) I).setCell (W 1 1) I).setCell (W 1 2) J);generalize hwB:((w3.setCell (W 1 0) I).setCell (W 1 1) I).setCell (W 1 2) J=w9 at *;have HQ:Hid (At w9 (W.heap.size+1) [I,I,J]):=by rw [←hwB];exact Hd (HL3.out.finA ⟨0,0,⟨#[]⟩⟩ rfl)
  clear rc0 rc1 rc2 r0 r1 r2 rh;obtain ⟨⟨q0,q1,q2⟩,_,_⟩:=At.three HQ.out;exact bodyPost_ret (v:=.agg #[I,I,J]) b22 rfl b112):p:=h
theorem km75 {p : Prop} (h:p:=by
 obtain ⟨Z,hZ⟩:∃Z,Z=(if b=true then (closedR s p o).2 else s):=⟨_,rfl⟩
 rw [←hZ];have HZ:=Hd hZ;clear hZ;generalize (closedR s p o)=PR at *;generalize Des.numE s.d p o.fd=le at *;generalize Des.lookV s.d p o.fd=D at *;generalize Des.numV s.d p o.fd=nv at *;generalize Des.closeD s.d p o.fd=DD at *;generalize Des.closeG s.d p o.fd=cg at *;exact cm20):p:=h
theorem km96 {p : Prop} (h:p:=by
 have HCL:Hid (∀W' l',Rm q B W' l' s→l'.x=l.x→Calls Tryz.prog 56 #[.agg #[.slice l.x.oa l.x.o.length l.x.oc,.slice l.x.ta l.x.t.length l.x.tc],p,o.fd] W' fun e w'=>∃y:Dv,e=.returned (.tuple #[.agg #[.slice y.oa y.o.length y.oc,.slice y.ta y.t.length y.tc],.bool (Des.closeG s.d p o.fd),(Des.numE s.d p o.fd)])∧y.pl=Des.closeD s.d p o.fd∧DAns W' l.x w' y∧Below W' W' w'):=Hd fun W' l' hm hx=>by
  have h1:=Des.closeR_v l'.x p o.fd W' hm.g.im.di.di (hm.dz ok.rt);rw [hm.g.im.dp,hx] at h1;exact h1
 exact cm75):p:=h
end Apnv
open Apnv in
set_option maxHeartbeats 16000000 in
theorem byd_closed (K:Nat) (q:Rq) (B:Nat) (l:Ly) (s:St) (p:Nat) (o:Opr) (b:Bool) (W:World) (h:Rm q B W l s) (ok:Ok K s) (okr:Okr K s) (hp:p<s.scr.length) (hkd:o.kd=2):
 Calls Tryz.prog 35 #[.pointer (some (l.M 0)),p,opVal o,.bool b] W (RefP b q B W l (closedR s p o).1 (if b=true then (closedR s p o).2 else s)):=by
 exact cm48
structure CIn (W:World) (n:Nat) (scr:List (List Opr)) (sa:Option Addr) (scp:Nat) (a:Option Addr) (c:Nat) (lst:List ByteArray) (v:Value) (xs:List Ev):Prop where
 sc:ScIn W.heap.size W (.slice sa scr.length scp) scr
 hn:n≤1000
 hs:1≤scr.length∧scr.length≤8
 bl:StrRow 0 a c lst W
 len:lst.length≤n
 sz:∀s,s∈lst→s.size≤128
 op:OpsOK scr
 ev:EvRow W v xs
 xl:xs.length≤1000
 kn:∀x,x∈xs→knB (begS scr n lst) x=true
section
variable {W W':World} {n:Nat} {scr:List (List Opr)} {sa:Option Addr} {scp:Nat} {a:Option Addr} {c:Nat} {lst:List ByteArray} {v:Value} {xs:List Ev}
theorem CIn.below (h:CIn W n scr sa scp a c lst v xs) (hb:Below W W W'):CIn W' n scr sa scp a c lst v xs:=by
 refine {h with sc:=?_,bl:=Con.StrRow.below h.bl hb,ev:=h.ev.below hb};obtain ⟨g,o,c2,h1,h2,h3,h4,h5⟩:=h.sc.below hb;exact cl78
theorem CIn.follow (h:CIn W n scr sa scp a c lst v xs) (pa:Option Addr) (pc:Nat):Calls Tryz.prog 19 #[.agg (cfgC (.slice pa n pc) (.slice sa scr.length scp)).toArray,.slice a lst.length c,v] W (FolP W (begS scr n lst) xs):=
 follow_any n pa pc scr sa scp scr.length a c lst v xs W h.sc rfl h.hn h.hs h.bl h.len h.sz h.op h.ev h.xl h.kn
end
def HisP (W:World) (n:Nat) (s:St) (xs:List Ev) (e:Ending) (w':World):Prop:=
 ∃(B:Nat) (l:Ly),e=.returned (.tuple #[fx l.H n,I])∧Mm B w' l (runS s xs xs.length).1∧Below W W w'
namespace A714
theorem km13 {p : Prop} (h:p:=by
 go_enter Tryz.func11,Tryz.ntmps11;exact cm46):p:=h
theorem km45 {p : Prop} (h:p:=by
 have HFS:Hid ((runS (begS scr n lst) xs xs.length).1.fs.length=n):=Hd ((run_keep _ xs _).2.trans (begF_len n lst));clear h;exact cm13):p:=h
theorem km46 {p : Prop} (h:p:=by
 clear hsz44;go_wp2_with fail;refine (HF.out _ HBW.out).mono ?_;rintro e w2 hfp;obtain ⟨B,l,ov,rfl,hB,hm,hown,hb⟩:=hfp;have HM:=Hd hm;have HB2:=Hd (HBW.out.trans (hb.mono HBW.out.size));have mH:w2.cell? (l.M 27)=some (.slice (some (l.H 0)) n n):=by
  have:=hm.cH;rw [HFS.out] at this;exact this
 clear hm hb hown hB;go_wp2_with fail;exact bodyPost_ret (v:=.tuple #[fx l.H n,I]) (by simp [results,Tryz.results11,go_sem,fx]) rfl ⟨B,l,rfl,HM.out,HB2.out⟩):p:=h
end A714
open A714 in
theorem histories_any (n:Nat) (pa:Option Addr) (pc:Nat) (scr:List (List Opr)) (sa:Option Addr) (scp:Nat) (a:Option Addr) (c:Nat) (lst:List ByteArray) (v:Value) (xs:List Ev) (W:World) (h:CIn W n scr sa scp a c lst v xs):
 Calls Tryz.prog 11 #[.agg (cfgC (.slice pa n pc) (.slice sa scr.length scp)).toArray,.slice a lst.length c,v] W (HisP W n (begS scr n lst) xs):=by
 exact cm45
def ChkP (W:World) (s:St) (xs:List Ev) (e:Ending) (w':World):Prop:=
 ∃(B:Nat) (ov:Value),e=.returned ov∧W.heap.size≤B∧w'.ownsRow B 70 2 ov (runS s xs xs.length).2.length (fnd (runS s xs xs.length).2)∧Below W W w'
namespace A7qc
theorem km13 {p : Prop} (h:p:=by
 go_enter Tryz.func12,Tryz.ntmps12;exact cm46):p:=h
theorem km45 {p : Prop} (h:p:=by
 clear h;exact cm13):p:=h
theorem km46 {p : Prop} (h:p:=by
 clear hsz44;go_wp2_with fail;refine (HF.out _ HBW.out).mono ?_;rintro e w2 hfp;obtain ⟨B,l,ov,rfl,hB,hm,hown,hb⟩:=hfp;have HOW:=Hd hown;have HB2:=Hd (HBW.out.trans (hb.mono HBW.out.size));have hBB:W.heap.size≤B:=Nat.le_trans HBW.out.size hB;clear hm hb hown hB;go_wp2_with fail;exact bodyPost_ret (v:=ov) (by simp [results,Tryz.results12,go_sem]) rfl ⟨B,ov,rfl,hBB,HOW.out,HB2.out⟩):p:=h
end A7qc
open A7qc in
theorem check_any (n:Nat) (pa:Option Addr) (pc:Nat) (scr:List (List Opr)) (sa:Option Addr) (scp:Nat) (a:Option Addr) (c:Nat) (lst:List ByteArray) (v:Value) (xs:List Ev) (W:World) (h:CIn W n scr sa scp a c lst v xs):
 Calls Tryz.prog 12 #[.agg (cfgC (.slice pa n pc) (.slice sa scr.length scp)).toArray,.slice a lst.length c,v] W (ChkP W (begS scr n lst) xs):=by
 exact cm45
open Des (At)
theorem ScrI.start {w0:World} {t:Nat} {a:Option Addr} {len cap:Nat} {w:World} (h:TP w0 t a len cap w) (r:Int):ScrI w0 t a len cap w [⟨1,0,r,3,0,0,0,⟨#[]⟩,false⟩] w.heap.size 1 (w.alloc (.cells ([(1:Int),I,r,(3:Int),I,I,I,J,.bool false]:List Value).toArray 66)):=by
 have hb:Below w w (w.alloc (.cells ([(1:Int),I,r,(3:Int),I,I,I,J,.bool false]:List Value).toArray 66)):=Br.alloc Nr _;refine ⟨own_new (n:=1) rfl b17 Nr,fun o ho=>?_,h.below hb h.hi,Tock.ofBelow hb Nr,h.hi⟩;rw [List.mem_singleton.1 ho];exact ⟨by show (1:Int)≤1;omega,by show (1:Int)≤14;omega,by show (0:Int)≤1000000;omega,by show (0:Nat)≤1000;omega⟩
set_option maxHeartbeats 64000000 in
theorem scripts_any (w0 W:World) (t:Nat) (a:Option Addr) (len cap:Nat) (h:TP w0 t a len cap W):
 Calls Tryz.prog 7 #[.pointer (some (t 0)),(3:Int),(2:Int)] W (ScrP w0 t a len cap W):=by
 have HN:Hid (∀(m:Int) W',1≤m→m≤1000000→TP w0 t a len cap W'→Calls Tryz.prog 9 #[.pointer (some (t 0)),m] W' fun e w'=>∃r:Int,0≤r∧r<m∧e=.returned (.int .i64 r)∧Tick t W' w'∧TP w0 t a len cap w'):=Hd fun m W' h1 h2 h3=>next_tp m w0 W' t a len cap h1 h2 h3;have HO:Hid (∀W',TP w0 t a len cap W'→Calls Tryz.prog 17 #[.pointer (some (t 0)),(2:Int)] W' (OprP w0 t a len cap W')):=Hd fun W' hp=>opD_any 2 w0 W' t a len cap b10 b10 hp;have HS:=Hd (ScrL.start h);have HT:=Hd h;clear h;go_enter Tryz.func7,Tryz.ntmps7;go_wp2_with (go_at_call 9;refine (HN.out _ _ b10 b10 HT.out).mono ?_;rintro e w1 ⟨r,h0,h1,rfl,ht,htp⟩;obtain ⟨u,rfl⟩:=Int.eq_ofNat_of_zero_le h0;have HS1:=Hd (HS.out.tock ht.tock htp);have hw:=IntWalk.wrap64_in (1+(u:Int)) b10;clear ht htp HT HS)
 go_loopw [7,8] (fun v7 v8 wr=>∃(j:Nat) (scr:List (List Opr)) (us:List Value),v8=.int .i64 (j:Int)∧scr.length+j=u+1∧Hid (ScrL w0 t a len cap W scr us v7 wr)) (fun _ v8 _=>(intOf v8).toNat)
 case atStart=>exact ⟨u+1,[],[],by rw [show ((u+1:Nat):Int)=1+(u:Int) by omega];try go_num,by simp,HS1⟩
 case round=>
  obtain ⟨j,scr,us,rfl,hj,HL⟩:=hrel;by_cases hlt:0<j
  ·obtain ⟨j',rfl⟩:∃j',j=j'+1:=⟨j-1,by omega⟩
   have hltI:0<((j'+1:Nat):Int):=b10;obtain ⟨i0,hi,hz0,hzs,hzb⟩:=info_parts find66;have HI0:=Hd hi;have HZ:=Hd hz0;have HZS:=Hd hzs;have HZB:=Hd hzb;obtain ⟨i1,hi1,hz1,hzs1,hzb1⟩:=info_parts find67;have HI1:=Hd hi1;have HZ1:=Hd hz1;have HZS1:=Hd hzs1;have HZB1:=Hd hzb1;clear hi hz0 hzs hzb hi1 hz1 hzs1 hzb1;go_upto_region 6 with (first|(go_at_call 9;refine (HN.out _ _ b10 b10 HL.out.tp).mono ?_;rintro e w2 ⟨r,r0,r1,rfl,ht,htp⟩;have HI:=Hd (ScrI.start htp r);have HL2:=Hd (HL.out.tock ht.tock htp);clear ht htp))
   generalize World.alloc w2 (Obj.cells _ 66)=w3 at *;have HQ2:Hid (∀q,u7.ownBlock=some q→q<w2.heap.size):=Hd fun q hq=>(HL2.out.own.lt q hq).2;clear r0 r1 HL;go_wp2_with (go_at_call 9;refine (HN.out _ _ b10 b10 HI.out.tp).mono ?_;rintro e w4 ⟨r2,r0,r1,rfl,ht,htp⟩;replace HI:=Hd (HI.out.tock ht.tock htp);clear ht htp;obtain ⟨v,rfl⟩:=Int.eq_ofNat_of_zero_le r0)
   go_loopw [9,10] (fun v9 v10 wr=>∃(m:Nat) (l:List Opr) (g c:Nat),v9=.slice (some (g 0)) l.length c∧v10=.int .i64 (m:Int)∧l.length+m≤20∧Hid (ScrI w0 t a len cap w2 l g c wr)) (fun _ v10 _=>(intOf v10).toNat)
   case atStart=>exact ⟨v,_,_,1,rfl,rfl,by simp;omega,HI⟩
   case round=>
    clear HI;obtain ⟨m,l,g,c,rfl,rfl,hm,HI⟩:=hrel;by_cases hlm:0<m
    ·obtain ⟨m',rfl⟩:∃m',m=m'+1:=⟨m-1,by omega⟩
     have hlmI:0<((m'+1:Nat):Int):=b10;go_wp2_with (first|(go_at_call 17;refine (HO.out _ HI.out.tp).mono ?_;rintro e w5 ⟨o,rfl,ho,htp,htk⟩;obtain ⟨kd,fd,fi,fl,off,ln,pg,dat,wb⟩:=o;simp only [opVal];have HOK:Hid (OprK ⟨kd,fd,fi,fl,off,ln,pg,dat,wb⟩):=Hd ho;have HI3:Hid (ScrI w0 t a len cap w2 l g c (w5.alloc (Obj.cells #[kd,fd,fi,fl,off,ln,pg,.string dat,.bool wb] 66))):=Hd ((HI.out.tock htk htp).tock (Tock.ofBelow (Br.alloc Nr _) Nr) (htp.below (Br.alloc Nr _) htp.hi));have HN3:Hid (∀j v,([kd,fd,fi,fl,off,ln,pg,.string dat,.bool wb]:List Value)[j]? =some v→(w5.alloc (Obj.cells #[kd,fd,fi,fl,off,ln,pg,.string dat,.bool wb] 66)).cell? ((⟨w5.heap.size,0,none⟩:Addr).add j)=some v):=Hd (World.news_of_block (Go.heap_alloc_new w5 _));have HS3:Hid ((w5.alloc (Obj.cells #[kd,fd,fi,fl,off,ln,pg,.string dat,.bool wb] 66)).heap.size=w5.heap.size+1):=Hd (Des.alloc_size _ _);clear ho htp htk)|(at_builtin;refine wpList_append_lies _ rfl _ _ _ rfl w2.heap.size 66 i0 (.agg #[I,I,I,I,I,I,I,J,.bool false]) 9 80 Tryz.underlying67 HI0.out HZ.out HZS.out HZB.out rfl b10 (.slice (some (g 0)) l.length c) l.length (l.flatMap Opr.cells) rfl HI3.out.own ⟨w5.heap.size,0,none⟩ 1 1 [kd,fd,fi,fl,off,ln,pg,.string dat,.bool wb] rfl rfl HN3.out b29 b10 b17 b10 HI3.out.tk.size (w5.heap.size+1) HS3.out ?_;intro gn cn w7 hown hgrow hat hlt7;have HOW:=Hd hown;have HGR:=Hd hgrow;clear hown hgrow hat hlt7))
     go_roundw
     case rel=>exact ⟨m',l++[⟨kd,fd,fi,fl,off,ln,pg,dat,wb⟩],gn,cn,by rw [List.length_append,List.length_singleton],by go_num,by rw [List.length_append,List.length_singleton];omega,Hd (HI3.out.app (o:=⟨kd,fd,fi,fl,off,ln,pg,dat,wb⟩) HOK.out HOW.out HGR.out)⟩
     case measure=>simp [intOf]
    ·obtain rfl:m=0:=b10;have HB4:Hid (Below wr wr (wr.alloc (Obj.cells #[.slice (some (g 0)) l.length c] 67))):=Hd (Br.alloc Nr _);have HLA:=Hd ((HL2.out.tock HI.out.tk HI.out.tp).tock (Tock.ofBelow HB4.out Nr) (HI.out.tp.below HB4.out HI.out.tp.hi));have HSB:Hid (ScrB (wr.alloc (Obj.cells #[.slice (some (g 0)) l.length c] 67)) g c l):=Hd ((ScrB.ofOwn HI.out.own).keep HB4.out.size fun j=>HB4.out.cell (p:=(g j)) (HI.out.own.lt g rfl).2);have HN4:Hid (∀j v,([.slice (some (g 0)) l.length c]:List Value)[j]? =some v→(wr.alloc (Obj.cells #[.slice (some (g 0)) l.length c] 67)).cell? ((⟨wr.heap.size,0,none⟩:Addr).add j)=some v):=Hd (World.news_of_block (Go.heap_alloc_new wr _));have HS4:Hid ((wr.alloc (Obj.cells #[.slice (some (g 0)) l.length c] 67)).heap.size=wr.heap.size+1):=Hd (Des.alloc_size _ _);have HGI:=Hd (HI.out.own.lt g rfl).1;have HWS:=Hd HL2.out.tk.size;go_wp2_with (at_builtin;refine wpList_append_lies _ rfl _ _ _ rfl W.heap.size 67 i1 (.slice none 0 0) 1 24 Tryz.underlying29 HI1.out HZ1.out HZS1.out HZB1.out rfl b10 u7 scr.length us rfl HLA.out.own ⟨wr.heap.size,0,none⟩ 1 1 [.slice (some (g 0)) l.length c] rfl rfl HN4.out b29 b10 b17 b10 HLA.out.tk.size (wr.heap.size+1) HS4.out ?_;intro gn cn w7 hown hgrow hat hlt7;have HOW:=Hd hown;have HGR:=Hd hgrow;have HAT:=Hd hat;clear hown hgrow hat hlt7)
     go_roundw
     case rel=>exact ⟨j',scr++[l],_,by go_num,by rw [List.length_append,List.length_singleton];omega,Hd (HLA.out.app (wi:=w2.heap.size) HQ2.out HSB.out HGI.out (Nat.le_trans HWS.out HGI.out) HI.out.ok HOW.out HGR.out (by rw [HS4.out];exact HAT.out))⟩
     case measure=>simp [intOf]
  ·obtain rfl:j=0:=b10;go_wp2_with fail;have HF:=Hd (HL.out.fin b10);obtain ⟨la,lc,rfl⟩:=own_sl HL.out.own;exact bodyPost_ret (v:=.slice la scr.length lc) (by simp [results,Tryz.results7,go_sem]) rfl HF.out
def HZ (s:St):Prop:=∀i x,x∈(s.h.getD i ([],0)).1→x.size≤1000
theorem hz_ch {s:St} (h:HZ s) (f:Nat) {d:ByteArray} (hd:d.size≤1000):HZ (chS s f d):=by
 intro i x hx;have hx:x∈((s.h.set f ((s.h.getD f ([],0)).1++[d],(s.h.getD f ([],0)).2)).getD i ([],0)).1:=hx;rw [getD_set0] at hx;split at hx
 ·simp only [List.mem_append,List.mem_singleton] at hx;rcases hx with h1|h1
  ·exact h f x h1
  ·rw [h1];exact hd
 ·exact h i x hx
theorem hz_sy {s:St} (h:HZ s) (f:Nat) (y:Ev):HZ (syS s f y):=by
 unfold syS;split
 ·intro i x hx;have hx:x∈((s.h.set f _).getD i ([],0)).1:=hx;rw [getD_set0] at hx;split at hx
  ·exact h f x hx
  ·exact h i x hx
 ·exact h
namespace A9pc
theorem km12 {p : Prop} (h:p:=by
 split;exact h;split;exact h;split;exact h
 exact hz_ch (s:={s with d:=_}) h _ (write_size (hz _))):p:=h
end A9pc
open A9pc in
theorem hz_plan {s:St} (h:HZ s) (hs:∀y,y∈s.fs→y.size≤1000) (p:Nat) (o:Opr) (x:Ev):HZ (planR s p o x).2:=by
 have hz:=fun f=>getD_mem0 (i:=f) hs;unfold planR;split
 ·unfold openedR;split;exact h;split<;>exact h
 ·unfold closedR;split<;>exact h
 ·unfold readR;split;exact h;split<;>exact h
 ·unfold writeR;exact cm12
 ·unfold seekR;split;exact h;split<;>exact h
 ·unfold truncateR;split;exact h;split;exact h;exact hz_ch h _ (trunc_size (hz _))
 ·unfold punchR;split;exact h;split;exact h;exact hz_ch h _ (punch_size (hz _))
 ·unfold syncR;generalize (if (Des.lookV s.d p o.fd).cu<s.fa.getD (Des.lookV s.d p o.fd).fi.toNat 0 then s.la.getD (Des.lookV s.d p o.fd).fi.toNat 0 else 0)=q;split;exact h
  refine hz_sy (?_:HZ _) _ _;exact h
 ·unfold mappedR;split;exact h;split;exact h;split;exact h;split;exact h;split<;>exact h
 ·unfold unmapR;split<;>exact h
 ·unfold loadR;split;exact h;split<;>exact h
 ·unfold storeR;split;exact h;split;exact h;split;exact h;split;exact h;exact hz_ch h _ (write_size (hz _))
 ·unfold dupR;split<;>exact h
 ·exact h
theorem hz_take {K:Nat} {s:St} (h:HZ s) (ok:Ok K s) (i:Int) (x:Ev):HZ (takeS s i x).2:=by
 have e:(ordS (stS s) x).h=s.h:=by unfold ordS;split<;>rfl
 have h1:HZ (ordS (stS s) x):=fun i y hy=>h i y (by rw [e] at hy;exact hy);unfold takeS;split
 ·exact h1
 ·show HZ (if _ then _ else _);split
  ·exact hz_plan h1 (ok_ord x ok).sz _ _ _
  ·exact h1
theorem hz_run {s:St} (h:HZ s) (ok:Ok 0 s) (xs:List Ev) (k:Nat):HZ (runS s xs k).1:=by
 induction k with
 |zero=>exact h
 |succ k ih=>exact hz_take ih (run_ok ok xs k) _ _
theorem hz_beg (scr:List (List Opr)) (n:Nat) (lst:List ByteArray) (hsz:∀s,s∈lst→s.size≤128):HZ (begS scr n lst):=by
 intro i x hx;have hx:x∈(((List.range n).map fun i=>if i<n then ([(begF n lst).getD i ⟨#[]⟩],(0:Int)) else ([],0)).getD i ([],0)).1:=hx;by_cases hi:i<n
 ·have e:(((List.range n).map fun i=>if i<n then ([(begF n lst).getD i ⟨#[]⟩],(0:Int)) else ([],0)).getD i ([],0))=([(begF n lst).getD i ⟨#[]⟩],0):=by simp [List.getD,hi]
  rw [e] at hx;simp only [List.mem_singleton] at hx;rw [hx,begF_get n lst i hi];exact getD_mem0 fun y hy=>Nat.le_trans (hsz y hy) b10
 ·have e:(((List.range n).map fun i=>if i<n then ([(begF n lst).getD i ⟨#[]⟩],(0:Int)) else ([],0)).getD i ([],0))=([],0):=by simp [List.getD,hi]
  rw [e] at hx;cases hx
def crF (h:List (List ByteArray×Int)) (ends:List ByteArray):Nat→List (Int×Int)
 |0=>[]
 |k+1=>crF h ends k++if Con.mayV (h.getD k ([],0)).1 (h.getD k ([],0)).2 (ends.getD k ⟨#[]⟩)=true then [] else [(-1,5)]
theorem crF_len (h:List (List ByteArray×Int)) (ends:List ByteArray) (k:Nat):(crF h ends k).length≤k:=by
 induction k with
 |zero=>exact Nat.le_refl _
 |succ k ih=>
  show (crF h ends k++_).length≤k+1;rw [List.length_append];split<;>simp<;>omega
def crashF (n:Nat) (s:St) (xs:List Ev) (ends:List ByteArray):List (Int×Int):=if (runS s xs xs.length).2.length=0 then crF (runS s xs xs.length).1.h ends n else (runS s xs xs.length).2
def CraP (W:World) (fl:List (Int×Int)) (e:Ending) (w':World):Prop:=∃(B:Nat) (ov:Value),e=.returned ov∧W.heap.size≤B∧w'.ownsRow B 70 2 ov fl.length (fnd fl)∧Below W W w'
namespace A1xm
theorem km13 {p : Prop} (h:p:=by
 have hnI:(n:Int)≤1000:=b10;have heI:(ends.length:Int)≤1000:=b10;go_enter Tryz.func13,Tryz.ntmps13;exact cm46):p:=h
theorem km45 {p : Prop} (h:p:=by
 have hok:=ok_beg scr n lst h.hn h.hs h.sz h.op;have HFS:Hid ((runS (begS scr n lst) xs xs.length).1.fs.length=n):=Hd ((run_keep _ xs _).2.trans (begF_len n lst));have HOK:=Hd (run_ok hok xs xs.length);have HZZ:=Hd (hz_run (hz_beg scr n lst h.sz) hok xs xs.length);have hn:=h.hn;have hxl:=h.xl;have HST:=Hd h2;have HES:Hid (∀k,(ends.getD k ⟨#[]⟩).size≤10000):=Hd fun k=>by
  by_cases hk:k<ends.length
  ·rw [show ends.getD k ⟨#[]⟩=ends[k] from by simp [List.getD,hk]];exact hes _ (List.getElem_mem hk)
  ·rw [show ends.getD k ⟨#[]⟩=⟨#[]⟩ from by simp [List.getD,hk]];exact Nat.zero_le _
 have HRL:Hid ((runS (begS scr n lst) xs xs.length).2.length≤xs.length):=Hd (run_len _ xs _);have HP:Hid (∀fl,crashF n (begS scr n lst) xs ends=fl→∀e w',CraP W fl e w'→CraP W (crashF n (begS scr n lst) xs ends) e w'):=Hd fun fl hf e w' h=>hf▸h;have HCF:Hid (crashF n (begS scr n lst) xs ends=if (runS (begS scr n lst) xs xs.length).2.length=0 then crF (runS (begS scr n lst) xs xs.length).1.h ends n else (runS (begS scr n lst) xs xs.length).2):=Hd rfl;clear h h2 hok hes;generalize crashF n (begS scr n lst) xs ends=CF at *;exact cm13):p:=h
theorem km46 {p : Prop} (h:p:=by
 go_wp2_with fail;refine (HC.out _ HBW.out).mono ?_;rintro e w2 hcp;obtain ⟨B,ov,rfl,hB,hown,hb⟩:=hcp;have HOW:=Hd hown;have HB2:=Hd (HBW.out.trans (hb.mono HBW.out.size));have hBB:W.heap.size≤B:=Nat.le_trans HBW.out.size hB;have HE2:=Hd (HE.out.below hb HE.out.hi);have hov:∃oa oc,ov=.slice oa (runS s0 xs xs.length).2.length oc:=by
  rcases hown.2 with ⟨h1,h2⟩|⟨g,cap,cur,h1,_⟩
  ·rw [h2];exact ⟨_,_,h1⟩
  ·exact ⟨_,_,h1⟩
 obtain ⟨oa,oc,rfl⟩:=hov;have hfl:=HRL.out;clear hown hb hB HE HBW HRL;by_cases hz:(runS s0 xs xs.length).2.length=0
 ·have HCF2:=Hd (HCF.out.trans (if_pos hz));clear HOW HCF;generalize (runS s0 xs xs.length).2.length=rl at *;have hzI:¬(0:Int)<(rl:Int):=b10;have HHZ:=Hd hz;clear hz;go_upto_region 4 with (fail)
  go_wp2_with (with_reducible refine Des.hold_load 44 rfl ?_)
  refine Des.load_ato 0 HE2.out.r Tryz.underlying44 rfl hsz44 rfl rfl rfl ?_;clear hsz44;go_wp2_with fail;refine (HF.out _ HB2.out).mono ?_;rintro e w3 hfp;obtain ⟨B3,l,ov3,rfl,hB3,hm,hown,hb⟩:=hfp;have HM:=Hd hm;have HB3:=Hd (HB2.out.trans (hb.mono HB2.out.size));have mH:w3.cell? (l.M 27)=some (.slice (some (l.H 0)) n n):=by
   have:=hm.cH;rw [HFS.out] at this;exact this
  have HHL:Hid ((runS s0 xs xs.length).1.h.length=n):=Hd (HOK.out.h.trans HFS.out);have HHK:Hid (∀i,i<(runS s0 xs xs.length).1.h.length→((runS s0 xs xs.length).1.h.getD i ([],0)).1.length≤10000):=Hd fun i hi=>by have:=HOK.out.hl i hi;omega
  clear hm hb hown hB3 HE2 HF HC HFS HOK;generalize (runS s0 xs xs.length).1=R at *;go_wp2_with fail;clear mH;go_loopw [13,38] (fun v13 v38 wr=>∃(ov:Value) (k:Nat),ov=v13∧k≤n∧v38=.int .i64 k∧Hid (wr.ownsRow w3.heap.size 70 2 ov (crF R.h ends k).length (fnd (crF R.h ends k)))∧Hid (Below w3 w3 wr)) (fun _ v38 _=>n-(intOf v38).toNat)
  case atStart=>exact ⟨_,0,rfl,Nat.zero_le _,rfl,World.ownsRow_nil _ _ 70 2,Below.refl _ _⟩
  case round=>
   obtain ⟨ov,k,rfl,hk,rfl,HOW,HBr⟩:=hrel;by_cases hlt:k<n
   ·have hltI:(k:Int)<(n:Int):=b10;have hkh:k<R.h.length:=by rw [HHL.out];exact hlt
    have HMr:=Hd (HM.out.below HBr.out);obtain ⟨hc1,hc2⟩:=hC_at l.hs R.h k hkh;have g0:=HMr.out.h.cell (k*2) _ hc1;have g1:=HMr.out.h.cell (k*2+1) _ hc2;have HMAY:Hid (∀(s:ByteArray) W',Below wr wr W'→s.size≤10000→Calls Tryz.prog 20 #[.agg #[.slice (l.hs.getD k Sl.nil).a (R.h.getD k ([],0)).1.length (l.hs.getD k Sl.nil).c,(R.h.getD k ([],0)).2],.string s] W' (RetW (.bool (Con.mayV (R.h.getD k ([],0)).1 (R.h.getD k ([],0)).2 s)) W')):=Hd fun s W' hb hs=>Con.may_any 0 _ _ _ _ s W' ((HMr.out.below hb).im.rh k hkh).1 (HHK.out k hkh) (fun x hx=>Nat.le_trans (HZZ.out k x hx) b10) hs;have HSK:Hid (crF R.h ends (k+1)=crF R.h ends k++if Con.mayV (R.h.getD k ([],0)).1 (R.h.getD k ([],0)).2 (ends.getD k ⟨#[]⟩)=true then [] else [(-1,5)]):=Hd rfl;have hck:=crF_len R.h ends k;have hcl:=HHK.out k hkh;have hsk:=HES.out k;generalize (l.hs.getD k Sl.nil).a=ha at *;generalize (l.hs.getD k Sl.nil).c=hcc at *;generalize hhp:R.h.getD k ([],0)=hp at *;obtain ⟨hL,hq⟩:=hp;have HEND:Hid (∀W',Below wr wr W'→k<ends.length→∃g,a2=some ⟨g,0,none⟩∧ends.length≤c2∧W'.cell? ⟨g,k,none⟩=some (.string (ends.getD k ⟨#[]⟩))):=Hd fun W' hb hke=>by
     rcases HST.out with ⟨h1,h2,h3⟩|⟨g,h1,_,h3,h4,_,h6⟩
     ·rw [h2] at hke;cases hke
     ·have hg3:g<w3.heap.size:=Nat.lt_of_lt_of_le h3 HB3.out.size;exact ⟨g,h1,h4,(hb.cell (p:=⟨g,k,none⟩) (Nat.lt_of_lt_of_le hg3 HBr.out.size)).trans ((HBr.out.cell (p:=⟨g,k,none⟩) hg3).trans ((HB3.out.cell (p:=⟨g,k,none⟩) h3).trans (h6 k hke)))⟩
    clear hc1 hc2 hhp;have HKE:Hid (¬k<ends.length→ends.getD k ⟨#[]⟩=⟨#[]⟩):=Hd fun h=>by simp [List.getD,h]
    generalize ends.getD k ⟨#[]⟩=sk at *;go_upto_region 9 with (fail)
    have HA:=Hd (At.new wr [.slice ha hL.length hcc,hq] 57);have HBa:=Hd ((Below.refl wr wr).alloc Nr (Obj.cells #[.slice ha hL.length hcc,hq] 57));have HOWa:=Hd (Des.ownsRow_below HOW.out HBa.out);have HAa:Hid (At (wr.alloc (Obj.cells #[.slice ha hL.length hcc,hq] 57)) wr.heap.size [.slice ha hL.length hcc,hq]):=HA;clear HA g0 g1;generalize wr.alloc (Obj.cells #[.slice ha hL.length hcc,hq] 57)=w4 at *;obtain ⟨_,_,b0,b1,_⟩:=Des.At.two HAa.out;by_cases hke:k<ends.length
    ·have hkeI:(k:Int)<(ends.length:Int):=b10;obtain ⟨g,rfl,hc2,he⟩:=HEND.out w4 HBa.out hke;have hc2I:(ends.length:Int)≤(c2:Int):=b10;go_upto_region 12 with (fail)
     clear he;have HB3r:=Hd (HBr.out.trans (HBa.out.mono HBr.out.size));go_wp2_with fail;refine (HMAY.out _ _ HBa.out hsk).mono ?_;rintro e w5 ⟨rfl,hb5⟩;have HB5:=Hd (HB3r.out.trans (hb5.mono HB3r.out.size));have HOW5:=Hd (Des.ownsRow_below HOWa.out hb5);clear hb5 b0 b1 HOWa HB3r HBa HOW HBr HMAY HMr HEND HAa;generalize Con.mayV hL hq sk=mB at *;exact cl11
    ·have hkeI:¬(k:Int)<(ends.length:Int):=b10;obtain rfl:sk=⟨#[]⟩:=(HKE.out hke)
     go_upto_region 12 with (fail)
     have HB3r:=Hd (HBr.out.trans (HBa.out.mono HBr.out.size));go_wp2_with fail;refine (HMAY.out _ _ HBa.out hsk).mono ?_;rintro e w5 ⟨rfl,hb5⟩;have HB5:=Hd (HB3r.out.trans (hb5.mono HB3r.out.size));have HOW5:=Hd (Des.ownsRow_below HOWa.out hb5);clear hb5 b0 b1 HOWa HB3r HBa HOW HBr HMAY HMr HEND HAa;generalize Con.mayV hL hq ⟨#[]⟩=mB at *;exact cl11
   ·have hkn:k=n:=b10;subst hkn;go_wp2_with fail;exact bodyPost_ret (v:=ov) (by simp [results,Tryz.results13,go_sem]) rfl ⟨w3.heap.size,ov,rfl,HB3.out.size,by rw [HCF2.out];exact HOW.out,HB3.out.trans (HBr.out.mono HB3.out.size)⟩
 ·have HCF2:=Hd (HCF.out.trans (if_neg hz));have hzI:(0:Int)<((runS s0 xs xs.length).2.length:Int):=b10;have HO2:Hid (CraP W CF (.returned (.slice oa (runS s0 xs xs.length).2.length oc)) w2):=Hd ⟨B,_,rfl,hBB,by rw [HCF2.out];exact HOW.out,HB2.out⟩;generalize (runS s0 xs xs.length).2.length=rl at *;go_wp2_with fail;exact bodyPost_ret (v:=.slice oa rl oc) (by simp [results,Tryz.results13,go_sem]) rfl HO2.out):p:=h
end A1xm
open A1xm in
set_option maxHeartbeats 40000000 in
theorem crash_any (n:Nat) (pa:Option Addr) (pc:Nat) (scr:List (List Opr)) (sa:Option Addr) (scp:Nat) (a:Option Addr) (c:Nat) (lst:List ByteArray) (a2:Option Addr) (c2:Nat) (ends:List ByteArray) (v:Value) (xs:List Ev) (W:World) (h:CIn W n scr sa scp a c lst v xs) (h2:StrRow 0 a2 c2 ends W) (hel:ends.length≤1000) (hes:∀s,s∈ends→s.size≤10000):
 Calls Tryz.prog 13 #[.agg (cfgC (.slice pa n pc) (.slice sa scr.length scp)).toArray,.slice a lst.length c,.slice a2 ends.length c2,v] W (CraP W (crashF n (begS scr n lst) xs ends)):=by
 have HC:Hid (∀W',Below W W W'→Calls Tryz.prog 12 #[.agg (cfgC (.slice pa n pc) (.slice sa scr.length scp)).toArray,.slice a lst.length c,v] W' (ChkP W' (begS scr n lst) xs)):=Hd fun W' hb=>check_any n pa pc scr sa scp a c lst v xs W' (h.below hb);exact cm45
end Go.Proofs.YtimhaidiclbnhaaGreat.Ver
