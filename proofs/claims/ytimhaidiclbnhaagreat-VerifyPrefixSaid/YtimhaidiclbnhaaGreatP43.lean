import Derived.Test.YtimhaidiclbnhaaGreatP32
import Derived.Test.YtimhaidiclbnhaaGreatP33
set_option linter.unusedSimpArgs false
set_option linter.unusedVariables false
set_option maxRecDepth 100000
open Go.ChangeShapes Go.WideShapes Go.ChangeAt Go.RowKit
namespace Go.Proofs.YtimhaidiclbnhaaGreat.Ver
open Des (Dv De Dn DIn DBlk DAns Vi At RowOf ints DSz)
open Ara (Ar ARow)
open Con (StrRow)
theorem syS_d (s:St) (d:De) (f:Nat) (x:Ev):syS {s with d:=d} f x={syS s f x with d:=d}:=by
 unfold syS;split<;>rfl
namespace Ad8f
theorem km28 {p : Prop} (h:p:=by
 refine tk 11 ?_;refine tk 12 ?_;refine tk 14 ?_;refine tk 15 ?_;refine tk 16 ?_;refine tk 17 ?_;refine tk 18 ?_;refine tk 19 ?_;refine tk 20 ?_;refine tk 21 ?_;refine tk 22 ?_;refine tk 23 ?_;refine tk 24 ?_;refine tk 25 ?_;refine tk 26 ?_;refine wpAnyH_ready (rs:=[13]) b12 b11 ?_;refine AllReadyH.cons (o:=⟨some 58,.load 57 (.tmp 57),57,_,#[⟨12,.data⟩],none⟩) rfl (fun KQ hKQ=>?_) AllReadyH.nil;go_simp;refine hKQ.out _ _ b15 (fun hHeld=>?_);clear hKQ KQ;try go_frame
 refine wpAnyH_ready (rs:=[27]) b12 b11 ?_;refine AllReadyH.cons (o:=⟨some 72,.call {callee:=.value (.func 81),args:=#[.tmp 58,.tmp 71],argTypes:=#[57,3]},57,_,#[⟨13,.data⟩,⟨26,.data⟩],none⟩) rfl (fun KQ hKQ=>?_) AllReadyH.nil;go_simp;go_at_call 81;refine (HCH.out _ _).mono ?_;rintro e w3 ⟨rfl,hb⟩;have HBB:=Hd hb;replace HL:=Hd (HL.out.below hb);clear hb v5 k0 mH mS mr gz g0 g1 g2 g3 g4;have v5:=HL.out.t.cell 5 (.int .i64 (i:Int)) (by rw [HCS.out,←HI.out];rfl);have k0:=HL.out.k.cell 0 (.int .i64 (f:Int)) b18;have mH:w3.cell? (l.M 27)=some (.slice (some (l.H 0)) s.fs.length q.h):=HL.out.m.cH;have mS:w3.cell? (l.M 28)=some (.slice (some (l.S 0)) s.fs.length q.s):=HL.out.m.cS;have mr:=(HS.out _ _ HL.out.m).1;have gz:=HRW.out _ _ HL.out.m;obtain ⟨⟨g0,g1⟩,g2,g3,g4⟩:=HH.out _ _ HL.out.m;go_wp2_with fail;refine hKQ.out _ _ b15 (fun hHeld=>?_);clear hKQ KQ;try go_frame
 refine tk 28 ?_;refine wpAnyH_ready (rs:=[29]) b12 b11 ?_;refine AllReadyH.cons (o:=⟨none,.store 57 (.tmp 73) (.tmp 72),0,_,#[⟨28,.data⟩,⟨27,.data⟩,⟨27,.chain⟩,⟨0,.phase⟩,⟨1,.phase⟩,⟨2,.phase⟩,⟨3,.phase⟩,⟨4,.phase⟩,⟨5,.phase⟩,⟨6,.phase⟩,⟨7,.phase⟩,⟨8,.phase⟩,⟨9,.phase⟩,⟨10,.phase⟩,⟨11,.phase⟩,⟨12,.phase⟩,⟨13,.phase⟩,⟨14,.phase⟩,⟨15,.phase⟩,⟨16,.phase⟩,⟨17,.phase⟩,⟨18,.phase⟩,⟨19,.phase⟩,⟨20,.phase⟩,⟨21,.phase⟩,⟨22,.phase⟩,⟨23,.phase⟩,⟨24,.phase⟩,⟨25,.phase⟩,⟨26,.phase⟩,⟨27,.phase⟩],none⟩) rfl (fun KQ hKQ=>?_) AllReadyH.nil;go_simp;refine hKQ.out _ _ b15 (fun hHeld=>?_);clear hKQ KQ;try go_frame
 refine wpAnyH_done b12 ?_ _;go_wp2_with fail;generalize hw4:(w3.setCell (l.H (f*2)) (.slice a L.length c)).setCell (l.H (f*2+1)) (Con.syncV L.length sy (z-1))=w4 at *;have hput:=HL.out.m.g.putH f HFH.out a c L (Con.syncV L.length sy (z-1)) (HSR.out _ _ HL.out.m).1 (HSR.out _ _ HL.out.m).2;rw [hw4] at hput;have hvk:Vk (vs {l with ex:=W.heap.size::(W.heap.size+1)::Kb::l.ex}) w3 w4:=by rw [←hw4];exact (Vk.set _ _ _ _ (mvs _).2.2.2.2.2.1).trans (Vk.set _ _ _ _ (mvs _).2.2.2.2.2.1)
 have HL4:=Hd (HL.out.stepH _ ⟨hput,HL.out.m.cf,HL.out.m.ch,HL.out.m.cs⟩ hvk);rw [←HPP.out] at HL4;go_meet;exact ⟨_,HL4,Hd (by rw [HPP.out];exact ⟨rfl,rfl,rfl⟩)⟩):p:=h
theorem km69 {p : Prop} (h:p:=by
 (first|go_region_with (first|(go_at_call 82;refine (HRT.out _ _ _ _ HL.out.m HSD.out.1).mono ?_;rintro e w2 ⟨y,rfl,hpl,ha,hb⟩;have HA:=Hd ha;have HPL:=Hd hpl;have HL2:=Hd (HL.out.below hb);clear ha hpl hb k0 k1 k2 k3 k4 mO mP z0 z1 z2;have z0:w2.frozen? (l.M 21)=false:=HL2.out.m.free 21 b10;have z1:w2.frozen? (l.M 22)=false:=HL2.out.m.free 22 b10;have z2:l.M<w2.heap.size:=HL2.out.m.g.m.hi;have mO:w2.cell? (l.M 21)=some (.slice l.x.oa l.x.o.length l.x.oc):=HL2.out.m.cO.1;have mP:w2.cell? (l.M 22)=some (.slice l.x.ta l.x.t.length l.x.tc):=HL2.out.m.cO.2;obtain ⟨⟨k0,k1,k2,k3,k4⟩,_,_⟩:=Des.At.five HL2.out.k))|fail)
 all_goals
  generalize hw3:(w2.setCell (l.M 21) (.slice y.oa y.o.length y.oc)).setCell (l.M 22) (.slice y.ta y.t.length y.tc)=w3 at *;have HL3:Hid (Lc false q B W w3 l {l with ex:=W.heap.size::(W.heap.size+1)::Kb::l.ex,hs:=hs,x:=y} {s1 with d:=y.pl} Kb cs os [D.fi,D.fl,D.f,fv,D.rf]):=by rw [←hw3];exact Hd (HL2.out.stepV y (HL2.out.m.putO y (HA.out.vi HL.out.m.g.im.di (fun b hb=>HL.out.m.g.hix b hb))) ((Vk.set _ _ _ _ (mvs _).1).trans (Vk.set _ _ _ _ (mvs _).1)))
  rw [HPL.out] at HL3;go_wp2_with fail;go_end0;obtain ⟨x',ar',hs',h1,h2⟩:=HL3.out.ends HEX.out;first|exact ⟨x',ar',hs',rfl,h1,h2⟩|exact ⟨rfl,⟨x',ar',hs',h1⟩,h2⟩):p:=h
end Ad8f
open Ad8f in
set_option maxHeartbeats 16000000 in
theorem syncedM_any (K:Nat) (q:Rq) (B:Nat) (l:Ly) (s:St) (p:Nat) (o:Opr) (x:Ev) (W:World) (h:Rm q B W l s) (ok:Ok K s) (okr:Okr K s) (hK:K≤9000) (hp:p<s.scr.length) (hnum:Des.numE s.d p o.fd=0) (hxp:x.pr=(p:Int)):
 Calls Tryz.prog 46 #[.pointer (some (l.M 0)),evVal x,opVal o] W fun e w3=>∃x' ar' hs',e=.returned (.tuple #[])∧Rm q B w3 {l with x:=x',ar:=ar',hs:=hs'} (syncR s p o x).2∧Vk (vs l) W w3:=by
 have HLK:Hid (∀W',Below W W W'→Calls Tryz.prog 43 #[.agg #[.slice l.x.oa l.x.o.length l.x.oc,.slice l.x.ta l.x.t.length l.x.tc],p,o.fd] W' (RetW (.tuple #[(Des.numV s.d p o.fd),.agg #[(Des.lookV s.d p o.fd).fi,(Des.lookV s.d p o.fd).fl,(Des.lookV s.d p o.fd).f,(Des.lookV s.d p o.fd).cu,(Des.lookV s.d p o.fd).rf],I]) W')):=Hd fun W' hb=>by
  have h1:=Des.lookupR_any l.x p o.fd W' (h.below hb).g.im.di.di (h.dz ok.rt);rw [h.g.im.dp] at h1;unfold Des.lookR at h1;rw [hnum] at h1;exact h1
 have HM:=Hd h;have HEX:Hid (∀b,b∈l.ex→b<W.heap.size):=Hd fun b hb=>(h.g.hx b hb).1;have hsy:=sync_eq2 (o:=o) ok.rt okr hp x;rw [if_neg (by rw [hnum];simp)] at hsy;rw [hsy];clear hsy;obtain ⟨hrd,f,hf,hfn⟩:=look_r ok.rt okr hnum;have HFI:Hid ((Des.lookV s.d p o.fd).fi=(f:Int)):=Hd hf;rw [hf,Int.toNat_natCast];clear hf hrd hnum;have hfa2:min (s.fa.getD f 0) 1000000=s.fa.getD f 0:=by have:=okr.fa f;omega
 have hfab:=ok.fab f;have hfh:f<s.h.length:=by have:=ok.h;omega
 have hfs:f<s.st.length:=by have:=ok.st;omega
 have hn:=ok.nf;have hl:(s.h.getD f ([],0)).1.length≤10000:=by have:=ok.hl f hfh;omega
 have hsl:(s.st.getD f []).length≤10000:=by have:=ok.sl f hfs;omega
 have hst:∀z,z∈s.st.getD f []→0≤z∧z≤1000000:=fun z hz=>by have:=ok.sv f hfs z hz;omega
 obtain ⟨L,sy,hps⟩:∃L sy,s.h.getD f ([],0)=(L,sy):=⟨_,_,rfl⟩
 obtain ⟨a,c,hsl2⟩:∃a c,l.hs.getD f Sl.nil=⟨a,c⟩:=⟨_,_,rfl⟩
 obtain ⟨R,hR⟩:∃R,s.st.getD f []=R:=⟨_,rfl⟩
 obtain ⟨sa,sc,hss⟩:∃sa sc,l.st.getD f Sl.nil=⟨sa,sc⟩:=⟨_,_,rfl⟩
 have HH:Hid (∀(E:List Nat) W',Rm q B W' {l with ex:=E} s→(W'.cell? (l.H (f*2))=some (.slice a L.length c)∧W'.cell? (l.H (f*2+1))=some (.int .i64 sy))∧W'.frozen? (l.H (f*2))=false∧W'.frozen? (l.H (f*2+1))=false∧l.H<W'.heap.size):=Hd fun E W' hm=>by
  obtain ⟨h1,h2⟩:=hC_at l.hs s.h f hfh;rw [hps,hsl2] at h1;rw [hps] at h2;exact ⟨⟨hm.g.h.cell (f*2) _ h1,hm.g.h.cell (f*2+1) _ h2⟩,hm.g.h.free (f*2) (by rw [hC_len];omega),hm.g.h.free (f*2+1) (by rw [hC_len];omega),hm.g.h.hi⟩
 have HS:Hid (∀(E:List Nat) W',Rm q B W' {l with ex:=E} s→W'.cell? (l.S f)=some (.slice sa R.length sc)∧RowOf W' sa R.length sc (ints R)):=Hd fun E W' hm=>by
  have h1:=slC_at l.st s.st f hfs;rw [hR,hss] at h1;have h2:=hm.g.rs f hfs;have h3:W'.ownsRow B 3 1 (.slice sa R.length sc) R.length (ints R):=by
   have e:({l with ex:=E}:Ly).st.getD f Sl.nil=⟨sa,sc⟩:=hss;rw [e,hR] at h2;exact h2
  exact ⟨hm.g.S.cell f _ h1,Des.RowOf.ofOwn h3⟩
 have HSB:Hid (∀g of,sa=some ⟨g,of,none⟩→g≠l.H):=Hd fun g of e hg=>h.g.nst.2.2.2.2.2.1 (hg▸h.g.sn hfs (q:=g) (by rw [hss];simp [e,Value.ownBlock]));have HRB:Hid (∀(E:List Nat) W' W2,Rm q B W' {l with ex:=E} s→Vk [l.H] W' W2→True):=Hd fun _ _ _ _ _=>trivial;have HCH:Hid (∀(t:Int) W',Calls Tryz.prog 81 #[.agg #[.slice a L.length c,.int .i64 sy],t] W' (RetW (.agg #[.slice a L.length c,(Con.syncV L.length sy t)]) W')):=Hd fun t W'=>Con.syncedR_any a L.length c sy t W';have HSR:Hid (∀(E:List Nat) W',Rm q B W' {l with ex:=E} s→StrRow 0 a c L W'∧∀g,a=some g→g.block∉vx {l with ex:=E}):=Hd fun E W' hm=>by
  have h1:=hm.g.im.rh f hfh;rw [show ({l with ex:=E}:Ly).hs.getD f Sl.nil=⟨a,c⟩ from hsl2] at h1;rw [show (s.h.getD f ([],0)).1=L from by rw [hps]] at h1;exact h1
 have HPP:Hid (syS s f x=if x.er=0∧0≤x.bg∧x.bg<(R.length:Int) then {s with h:=s.h.set f (L,Con.syncV L.length sy (R.getD x.bg.toNat 0-1))} else s):=Hd (by unfold syS;simp only [hR,hps]);rw [hR] at hsl hst;rw [syS_d];have HAF:Hid ((ints s.fa)[f]? =some ((s.fa.getD f 0):U)):=Hd (Des.ints_at s.fa f (by have:=ok.fa;omega));generalize s.fa.getD f 0=fv at *;have HRT:Hid (∀(E:List Nat) (hs:List Sl) (t:St) W',Rm q B W' {l with ex:=E,hs:=hs} t→t.d=s.d→Calls Tryz.prog 82 #[.agg #[.slice l.x.oa l.x.o.length l.x.oc,.slice l.x.ta l.x.t.length l.x.tc],(Des.numV s.d p o.fd),.agg #[(Des.lookV s.d p o.fd).fi,(Des.lookV s.d p o.fd).fl,(Des.lookV s.d p o.fd).f,fv,(Des.lookV s.d p o.fd).rf]] W' fun e w'=>∃y:Dv,e=.returned (.tuple #[.agg #[.slice y.oa y.o.length y.oc,.slice y.ta y.t.length y.tc],(Des.updE s.d (Des.numV s.d p o.fd) (Des.lookV s.d p o.fd).f fv)])∧y.pl=Des.updD s.d (Des.numV s.d p o.fd) (Des.lookV s.d p o.fd).f fv∧DAns W' l.x w' y∧Below W' W' w'):=Hd fun E hs t W' hm hd=>by
  have h1:=Des.updR_v l.x (Des.numV s.d p o.fd) (Des.lookV s.d p o.fd).fi (Des.lookV s.d p o.fd).fl (Des.lookV s.d p o.fd).f fv (Des.lookV s.d p o.fd).rf W' hm.g.im.di.di (hm.dz (by rw [hd];exact ok.rt));have e:l.x.pl=s.d:=hm.g.im.dp.trans hd;rw [e] at h1;exact h1
 have HX:=Hd (Bx2.start W x.cells o.cells 64 66);have hov:opVal o=.agg o.cells.toArray:=rfl;have hev:evVal x=.agg x.cells.toArray:=rfl;rw [hov,hev];obtain ⟨cs,hcs⟩:∃cs,cs=x.cells:=⟨_,rfl⟩
 have HCS:=Hd hcs;obtain ⟨os,hos⟩:∃os,os=o.cells:=⟨_,rfl⟩
 have HOS:=Hd hos;have HXP:=Hd hxp;rw [←hcs,←hos] at HX ⊢;clear hcs hos hov hev hxp;have HFH:=Hd hfh;have hnI:(s.fs.length:Int)≤1000:=b10;have hfI:(f:Int)<(s.fs.length:Int):=b10;have hqH:(s.fs.length:Int)≤(q.h:Int):=by have:=h.ch;omega
 have hqS:(s.fs.length:Int)≤(q.s:Int):=by have:=h.cs;omega
 have HOK:=Hd ok;have HOR:=Hd okr;clear ok okr h hps hsl2 hR hss hl hfh hfs;generalize Des.updE s.d (Des.numV s.d p o.fd) (Des.lookV s.d p o.fd).f fv=ue at *;generalize Des.updD s.d (Des.numV s.d p o.fd) (Des.lookV s.d p o.fd).f fv=dd at *;generalize Des.lookV s.d p o.fd=D at *;generalize Des.numV s.d p o.fd=nv at *;obtain ⟨s1,hs1⟩:∃s1,s1=syS s f x:=⟨_,rfl⟩
 rw [←hs1] at HPP ⊢;clear hs1;go_enter Tryz.func46,Tryz.ntmps46;go_upto_region 1 with (fail)
 generalize World.alloc _ (Obj.cells os.toArray 66)=W1 at *;have HR1:Hid (W.heap.size+1<W1.heap.size):=Hd HX.out.r.hi;go_cut [6,7,8] (fun s6 s7 s8 wx=>∃Kb:Nat,s6=.int .i64 nv∧s7=.pointer (some (Kb 0))∧s8=.int .i64 0∧Hid (Nb W1 wx Kb [D.fi,D.fl,D.f,D.cu,D.rf]))
 case first=>
  have HX0:=HX;replace HX:=Hd (HX.out.below Br.drew);have hT:W.heap.size<W1.heap.size:=HX0.out.t.hi;have hT2:=HR1.out;have hM:l.M<W1.heap.size:=(HM.out.below HX0.out.bel).g.m.hi;have e1:¬W1.heap.size=W.heap.size:=b10;have e2:¬W.heap.size=W1.heap.size:=b10;have e3:¬W1.heap.size=l.M:=b10;have e4:¬l.M=W1.heap.size:=b10;have e5:¬W1.heap.size=W.heap.size+1:=b10;have e6:¬W.heap.size+1=W1.heap.size:=b10;have yv1:=HX0.out.t.cell 1 (.int .i64 (p:Int)) (by rw [HCS.out,←HXP.out];rfl);have yo1:=HX0.out.r.cell 1 (.int .i64 o.fd) b19;have ymO:W1.cell? (l.M 21)=some (.slice l.x.oa l.x.o.length l.x.oc):=(HM.out.below HX0.out.bel).cO.1;have ymP:W1.cell? (l.M 22)=some (.slice l.x.ta l.x.t.length l.x.tc):=(HM.out.below HX0.out.bel).cO.2;have v1:=HX.out.t.cell 1 (.int .i64 (p:Int)) (by rw [HCS.out,←HXP.out];rfl);have o1:=HX.out.r.cell 1 (.int .i64 o.fd) b19;have mO:W1.drew.cell? (l.M 21)=some (.slice l.x.oa l.x.o.length l.x.oc):=(HM.out.below HX.out.bel).cO.1;have mP:W1.drew.cell? (l.M 22)=some (.slice l.x.ta l.x.t.length l.x.tc):=(HM.out.below HX.out.bel).cO.2;go_region_held3 (fun w'=>w'.cell? (W 0 1)=some (p:U)∧w'.cell? (W 1 1)=some (o.fd:U)∧w'.cell? (l.M 21)=some (.slice l.x.oa l.x.o.length l.x.oc)∧w'.cell? (l.M 22)=some (.slice l.x.ta l.x.t.length l.x.tc)) (go_keep) (first|(go_at_call 43;refine (HLK.out _ b32).mono ?_;rintro e w2 ⟨rfl,hb⟩;(first|(have HA:=Hd hb;replace HX:=Hd (HX.out.below hb))|(have HB:=Hd hb;obtain ⟨_,⟨f0,f1,f2,f3,f4⟩,fh⟩:=Des.At.five (((At.new W1 [I,I,I,I,I] 126).drew).below hb b38);replace HX:=Hd ((HX.out.below (Br.alloc Nr _)).below hb)));clear hb v1 o1 mO mP;have v1:=HX.out.t.cell 1 (.int .i64 (p:Int)) (by rw [HCS.out,←HXP.out];rfl);have o1:=HX.out.r.cell 1 (.int .i64 o.fd) b19;have mO:w2.cell? (l.M 21)=some (.slice l.x.oa l.x.o.length l.x.oc):=(HM.out.below HX.out.bel).cO.1;have mP:w2.cell? (l.M 22)=some (.slice l.x.ta l.x.t.length l.x.tc):=(HM.out.below HX.out.bel).cO.2))
  all_goals
   go_wp2_with fail;go_meet;first|exact ⟨_,rfl,rfl,rfl,Hd (Nb.after ((Below.refl W1 W1).drew.trans HA.out) [D.fi,D.fl,D.f,D.cu,D.rf] 126)⟩|exact ⟨_,rfl,rfl,rfl,Hd (Nb.before (T:=126) (zs:=[I,I,I,I,I]) ((Below.refl (W1.alloc _).heap.size (W1.alloc _)).drew.trans HB.out) [D.fi,D.fl,D.f,D.cu,D.rf] rfl)⟩
 case rest=>
 obtain ⟨Kb,rfl,rfl,rfl,HN⟩:=hcut;have HL:=Hd (Lc.start HM.out HX.out HN.out).weak;have HKb:Hid (W.heap.size+1<Kb):=Hd HL.out.lo;clear HX HN HLK;have hRl:(R.length:Int)≤10000:=b10;go_upto_region 2 with (fail)
 go_cut [44] (fun s44 wx=>s44=.bool (decide (x.er=0∧0≤x.bg∧x.bg<(R.length:Int)))∧Hid (Lc false q B W wx l {l with ex:=W.heap.size::(W.heap.size+1)::Kb::l.ex} s Kb cs os [D.fi,D.fl,D.f,D.cu,D.rf]))
 case first=>
  have v5:=HL.out.t.cell 5 (.int .i64 x.bg) b13;have k0:=HL.out.k.cell 0 (.int .i64 (f:Int)) b18;have mS:wc.cell? (l.M 28)=some (.slice (some (l.S 0)) s.fs.length q.s):=HL.out.m.cS;have mr:=(HS.out _ _ HL.out.m).1;by_cases c1:x.er=0
  ·have v6:=HL.out.t.cell 6 (.int .i64 0) (by rw [HCS.out,←c1];rfl);by_cases c2:0≤x.bg
   ·have HC1:=Hd c1;clear c1;go_wp2_with fail;go_quiet (fail);go_wp2_with fail;go_meet;exact ⟨by simp [HC1.out,c2],Hd (HL.out.below (below_drewN Br nq))⟩
   ·have hd:decide ((0:Int)≤x.bg)=false:=decide_eq_false c2;have HC1:=Hd c1;have HC2:=Hd c2;clear c1 c2;go_wp2_with fail;go_quiet (fail);go_wp2_with fail;go_meet;exact ⟨by simp [HC1.out];have:=HC2.out;omega,Hd (HL.out.below (below_drewN Br nq))⟩
  ·have v6:=HL.out.t.cell 6 (.int .i64 x.er) b13;have hd:(x.er==0)=false:=by simpa using c1
   have HC1:=Hd c1;clear c1;go_wp2_with fail;go_quiet (fail);go_wp2_with fail;go_meet;exact ⟨by simp [HC1.out],Hd (HL.out.below (below_drewN Br nq))⟩
 case rest=>
 obtain ⟨rfl,HL2⟩:=hcut;replace HL:=HL2;clear HL2;go_upto_if 44 with (fail)
 go_cut [] (fun wx=>∃hs:List Sl,Hid (Lc false q B W wx l {l with ex:=W.heap.size::(W.heap.size+1)::Kb::l.ex,hs:=hs} s1 Kb cs os [D.fi,D.fl,D.f,D.cu,D.rf])∧Hid (s1.d=s.d∧s1.fa=s.fa∧s1.fs=s.fs))
 case first=>
  by_cases hc:x.er=0∧0≤x.bg∧x.bg<(R.length:Int)
  ·rw [show decide (x.er=0∧0≤x.bg∧x.bg<(R.length:Int))=true from decide_eq_true hc];replace HPP:=Hd (HPP.out.trans (if_pos hc));obtain ⟨c1,c2,c3⟩:=hc;obtain ⟨i,hi⟩:∃i:Nat,x.bg=(i:Int):=⟨x.bg.toNat,by omega⟩
   rw [hi,Int.toNat_natCast] at HPP;have hiR:i<R.length:=b10;obtain ⟨g,of,e1,e2,e3,e4,e5⟩:=(HS.out _ _ HL.out.m).2.at b10;subst e1;rw [hi] at c2 c3;have HI:=Hd hi;clear hi c1;have hz:=hst (R.getD i 0) b127;have HRW:Hid (∀(E:List Nat) W',Rm q B W' {l with ex:=E} s→W'.cell? ⟨g,of+i,none⟩=some ((R.getD i 0):U)):=Hd fun E W' hm=>by
    obtain ⟨g2,o2,k1,_,_,_,k5⟩:=(HS.out E _ hm).2.at b10;cases k1;exact k5 i _ (Des.ints_at R i hiR)
   generalize R.getD i 0=z at *;have hzw:wrap64 (z-1)=z-1:=IntWalk.wrap64_in _ b10;have hzw2:IntKind.i64.wrap (z-1)=z-1:=IntWalk.i64_in _ b10;clear e2 e3 e4 e5;go_upto_region 3 with (fail)
   replace HL:=Hd (HL.out.below Br.drew);have HLd:=HL;have v5:=HL.out.t.cell 5 (.int .i64 (i:Int)) (by rw [HCS.out,←HI.out];rfl);have k0:=HL.out.k.cell 0 (.int .i64 (f:Int)) b18;have mH:wc.drew.cell? (l.M 27)=some (.slice (some (l.H 0)) s.fs.length q.h):=HL.out.m.cH;have mS:wc.drew.cell? (l.M 28)=some (.slice (some (l.S 0)) s.fs.length q.s):=HL.out.m.cS;have mr:=(HS.out _ _ HL.out.m).1;have gz:=HRW.out _ _ HL.out.m;obtain ⟨⟨g0,g1⟩,g2,g3,g4⟩:=HH.out _ _ HL.out.m;have e1:¬W.heap.size=l.H:=by have:=HM.out.g.hi _ (mvs l).2.2.2.2.2.1;omega
   have e2:¬l.H=W.heap.size:=fun e=>e1 e.symm;have e3:¬l.M=l.H:=HM.out.g.ne.1.2.2.2.2.1;have e4:¬l.H=l.M:=fun e=>e3 e.symm;have e5:¬Kb=l.H:=by have:=HM.out.g.hi _ (mvs l).2.2.2.2.2.1;have:=HKb.out;omega
   have e6:¬l.H=Kb:=fun e=>e5 e.symm;have e7:¬g=l.H:=HSB.out g of rfl;have e8:¬l.H=g:=fun e=>e7 e.symm;have e9:¬l.S=l.H:=fun e=>HM.out.g.ne.2.2.2.2.2.1.1 e.symm;have e10:¬l.H=l.S:=fun e=>e9 e.symm;refine wp_region_held_drew (S:=fun w'=>w'.cell? (W 0 5)=some (i:U)∧w'.cell? (Kb 0)=some (f:U)∧w'.cell? (l.M 27)=some (.slice (some (l.H 0)) s.fs.length q.h)∧w'.cell? (l.M 28)=some (.slice (some (l.S 0)) s.fs.length q.s)∧w'.cell? (l.S f)=some (.slice (some ⟨g,of,none⟩) R.length sc)∧w'.cell? ⟨g,of+i,none⟩=some (.int .i64 z)) b12 b15 (fun hHeld=>?_);exact cm28
  ·rw [show decide (x.er=0∧0≤x.bg∧x.bg<(R.length:Int))=false from decide_eq_false hc];have hs1:=HPP.out.trans (if_neg hc);clear hc;subst hs1;go_wp2_with fail;go_meet;exact ⟨l.hs,HL,Hd (by first|exact ⟨rfl,rfl,rfl⟩|simp)⟩
 case rest=>
 obtain ⟨hs,HL2,HSD⟩:=hcut;replace HL:=HL2;clear HL2 HPP;have hsf:s1.fs.length=s.fs.length:=by rw [HSD.out.2.2]
 go_upto_region 4 with (fail)
 go_cut [] (fun wx=>Hid (Lc false q B W wx l {l with ex:=W.heap.size::(W.heap.size+1)::Kb::l.ex,hs:=hs} s1 Kb cs os [D.fi,D.fl,D.f,fv,D.rf]))
 case first=>
  replace HL:=Hd (HL.out.below Br.drew);have k0:=HL.out.k.cell 0 (.int .i64 (f:Int)) b18;have k3:wc.drew.frozen? (Kb 3)=false:=HL.out.k.free 3 b11;have k3c:=HL.out.k.cell 3 (.int .i64 D.cu) rfl;have kh:=HL.out.k.hi;have mA:wc.drew.cell? (l.M 25)=some (.slice (some (l.A 0)) s.fs.length s.fs.length):=(by have:=HL.out.m.cA;rw [hsf] at this;exact this)
  have a0:wc.drew.cell? (l.A f)=some (fv:U):=HL.out.m.g.a.cell f _ (by rw [HSD.out.2.1];exact HAF.out);have e5:¬Kb=l.M:=by have:=HM.out.g.m.hi;have:=HKb.out;omega
  have e6:¬l.M=Kb:=fun e=>e5 e.symm;have e7:¬Kb=l.A:=by have:=HM.out.g.a.hi;have:=HKb.out;omega
  have e8:¬l.A=Kb:=fun e=>e7 e.symm;go_region
  all_goals
   go_wp2_with fail;try simp only [hfa2]
   go_meet;exact Hd (HL.out.setK 3 (.int .i64 fv))
 case rest=>
 replace HL:=hcut;clear hcut;go_upto_region 5 with (fail)
 replace HL:=Hd (HL.out.below Br.drew);obtain ⟨⟨k0,k1,k2,k3,k4⟩,_,_⟩:=Des.At.five HL.out.k;exact cm69
end Go.Proofs.YtimhaidiclbnhaaGreat.Ver
