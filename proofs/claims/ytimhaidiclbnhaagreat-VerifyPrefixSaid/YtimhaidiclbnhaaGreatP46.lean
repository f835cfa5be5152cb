import Derived.Test.YtimhaidiclbnhaaGreatP45
set_option linter.unusedSimpArgs false
set_option linter.unusedVariables false
set_option maxRecDepth 100000
open Go.ChangeShapes Go.WideShapes Go.ChangeAt Go.RowKit
namespace Go.Proofs.YtimhaidiclbnhaaGreat.Ver
open Des (Dv De Dn DIn DBlk DAns Vi At RowOf ints DSz)
open Ara (Ar ARow)
open Con (StrRow)
def StaP (W:World) (pl sc:Value) (s:St) (e:Ending) (w':World):Prop:=
 ∃(q:Rq) (l:Ly),e=.returned (.agg (rC q l s).toArray)∧Rm q W.heap.size w' l s∧l.pl=pl∧l.sc=sc∧l.ex=[]∧((∀b,DBlk l.x b→W.heap.size≤b)∧(∀i q,(l.ar.getD i Sl.nil).a=some q→W.heap.size≤q.block)∧(∀i q,(l.hs.getD i Sl.nil).a=some q→W.heap.size≤q.block))∧Below W W w'
theorem results_cell2 (P:Program) (fn:Func) (tmps:Array Value) {t u:Tmp} {ty:TypeId} (h:fn.results=#[.cell t ty,.tmp u]) (w:World) (b:Nat) (cs:List Value) (v:Value) (ht:tmps.getD t undef=.pointer (some (b 0))) (hv:tmps.getD u undef=v) (d:TypeDesc) (hc:w.rangeAt b 0 cs)
 (hu:P.underlying ty=some d) (hd:d.isRow=true) (hi:(P.info? ty).map (·.size)=some cs.length):(results fn tmps).run P w=.ok (.tuple #[.agg cs.toArray,v]) w:=by
 have:=run_loadVar_mid (P:=P) w b 0 ty cs d hc hu hd hi;have ht2:tmps[t]?.getD undef=.pointer (some (b 0)):=by rw [←ht];simp
 have hv2:tmps[u]?.getD undef=v:=by rw [←hv];simp
 simp [results,h,ht2,hv2,this,asAddr]
theorem plan_tm (s:St) (p:Nat) (o:Opr) (x:Ev):(planR s p o x).2.tm=s.tm:=by
 unfold planR;split
 ·unfold openedR;split;rfl;split<;>rfl
 ·unfold closedR;split<;>rfl
 ·unfold readR;split;rfl;split<;>rfl
 ·unfold writeR;generalize (if andV (Des.lookV s.d p o.fd).fl 4≠0∧¬o.dat.size=0 then ((s.fs.getD (Des.lookV s.d p o.fd).fi.toNat ⟨#[]⟩).size:Int) else (Des.lookV s.d p o.fd).f)=q;split;rfl;split;rfl;split<;>rfl
 ·unfold seekR;split;rfl;split<;>rfl
 ·unfold truncateR;split;rfl;split<;>rfl
 ·unfold punchR;split;rfl;split<;>rfl
 ·unfold syncR;generalize (if (Des.lookV s.d p o.fd).cu<s.fa.getD (Des.lookV s.d p o.fd).fi.toNat 0 then s.la.getD (Des.lookV s.d p o.fd).fi.toNat 0 else 0)=q;split;rfl;unfold syS;split<;>rfl
 ·unfold mappedR;split;rfl;split;rfl;split;rfl;split;rfl;split<;>rfl
 ·unfold unmapR;split<;>rfl
 ·unfold loadR;split;rfl;split<;>rfl
 ·unfold storeR;split;rfl;split;rfl;split;rfl;split<;>rfl
 ·unfold dupR;split<;>rfl
 ·rfl
theorem take_tm (s:St) (i:Int) (x:Ev):(takeS s i x).2.tm=x.tm:=by
 have e:(ordS (stS s) x).tm=x.tm:=by unfold ordS;split<;>rfl
 unfold takeS;split
 ·exact e
 ·show (ite _ _ _:St).tm=_;split
  ·rw [plan_tm];exact e
  ·exact e
theorem take_pr {s:St} {i:Int} {x:Ev} (h:x.pr≠-1):(takeS s i x).2=if (opAt s x.pr.toNat x.ix.toNat).kd=8∨x.er=0 then (planR (ordS (stS s) x) x.pr.toNat (opAt s x.pr.toNat x.ix.toNat) x).2 else ordS (stS s) x:=by
 unfold takeS;rw [if_neg h]
theorem take_fail {s:St} {i:Int} {x:Ev} (h:x.pr=-1):(takeS s i x).2=failS (ordS (stS s) x) x:=by
 unfold takeS;rw [if_pos h]
theorem Rm.base {q:Rq} {B B' R:Nat} {W:World} {l:Ly} {s:St} (h:Rm q B W l s) (hB:B'≤B) (hsc:ScIn B' W l.sc s.scr) (he:l.ex=[]) (hR:B'≤R) (hR2:R<B)
 (hx:∀b,DBlk l.x b→B≤b) (ha:∀i q,(l.ar.getD i Sl.nil).a=some q→B≤q.block) (hh:∀i q,(l.hs.getD i Sl.nil).a=some q→B≤q.block):Rm q B' W {l with ex:=[R]} s:=by
 have g:=h.g;have nm:∀b,b∉vx l→b≠R→b∉vx {l with ex:=[R]}:=fun b h1 h2 hm=>by
  rcases List.mem_append.1 hm with h3|h3
  ·exact h1 (vs_vx h3)
  ·rcases List.mem_cons.1 h3 with h4|h4
   ·exact h2 h4
   ·cases h4
 refine ⟨⟨⟨⟨g.im.di.di,fun b hb=>nm b (g.im.di.out b hb) (by have:=hx b hb;omega)⟩,g.im.dp,fun i hi=>⟨(g.im.ra i hi).1,fun u hu=>nm _ ((g.im.ra i hi).2 u hu) (by have:=ha i u hu;omega)⟩,fun i hi=>⟨(g.im.rh i hi).1,fun u hu=>nm _ ((g.im.rh i hi).2 u hu) (by have:=hh i u hu;omega)⟩,hsc⟩,
  g.m,g.f,g.a,g.la,g.r,g.h,g.S,g.n,g.b,fun i hi=>⟨(g.rs i hi).1,?_⟩,g.nd,fun b hb=>Nat.le_trans hB (g.lo b hb),Nat.le_trans hB g.hB,g.la',g.lh',g.lr',fun b hb=>?_⟩,h.cf,h.ch,h.cs⟩
 ·rcases (g.rs i hi).2 with h1|⟨g0,cap,cur,e1,e2,e3⟩
  ·exact Or.inl h1
  ·exact Or.inr ⟨g0,cap,cur,e1,Nat.le_trans hB e2,e3⟩
 ·rcases List.mem_cons.1 hb with rfl|h4
  ·exact ⟨Nat.lt_of_lt_of_le hR2 g.hB,hR⟩
  ·cases h4
theorem rput {q:Rq} {B:Nat} {wa w1:World} {l:Ly} {s:St} {j hL g cap:Nat} {Y:St} (HT:Rm q B wa l (stK s j)) (hj:j<s.st.length) (hsf:s.st.length=s.fs.length)
 (hown:w1.ownsRow B 3 1 (.slice (some (g 0)) ((s.st.getD j []).length+1) cap) ((s.st.getD j []).length+1) (ints (s.st.getD j [])++[.int .i64 (hL:Int)]))
 (hgrow:wa.grownBy w1 (Value.slice (l.st.getD j Sl.nil).a (s.st.getD j []).length (l.st.getD j Sl.nil).c).ownBlock)
 (hat:(Value.slice (l.st.getD j Sl.nil).a (s.st.getD j []).length (l.st.getD j Sl.nil).c).ownBlock=some g∨g=wa.heap.size)
 (hY:{stK s j with st:=(stK s j).st.set j ((stK s j).st.getD j []++[(hL:Int)])}=Y):
 Rm q B (w1.setCell (l.S j) (.slice (some (g 0)) ((s.st.getD j []).length+1) cap)) {l with st:=l.st.set j ⟨some ⟨g,0,none⟩,cap⟩} Y∧Vk (vs l) wa (w1.setCell (l.S j) (.slice (some (g 0)) ((s.st.getD j []).length+1) cap))∧(∀b,b∈vs {l with st:=l.st.set j ⟨some ⟨g,0,none⟩,cap⟩}→b∈vs l∨wa.heap.size≤b):=by
 subst hY;have er:=row_k s j hj;rw [←er] at hown hgrow hat;rw [show s.st.getD j []=(stK s j).st.getD j [] from er.symm];obtain ⟨h1,h2,h3⟩:=HT.g.putS j (by show j<(stAt s j).length;rw [stAt_len];exact hj) (by show (stAt s j).length=s.fs.length;rw [stAt_len];exact hsf) hL g cap hown hgrow hat;exact ⟨⟨h1,HT.cf,HT.ch,HT.cs⟩,h2,h3⟩
namespace Ac5k
theorem km9 {p : Prop} (h:p:=by
 have HEV:Hid (∀b,b∈vs l2→b<wr.heap.size):=Hd HRM.out.g.hi;go_upto_region 8 with (fail)
 clear e0 e1 e2 e3 e4 e5 e6 e7 e8; have HE : Hid (At (wr.alloc (Obj.cells #[x.tm, .int .i64 x.pr, .int .i64 x.ix, .int .i64 x.fi, .int .i64 x.at', .int .i64 x.bg, .int .i64 x.er, .int .i64 x.n, .string x.dat] 64)) wr.heap.size x.cells) := Hd (At.new wr x.cells 64); have hbe : Below wr wr (wr.alloc (Obj.cells #[x.tm, .int .i64 x.pr, .int .i64 x.ix, .int .i64 x.fi, .int .i64 x.at', .int .i64 x.bg, .int .i64 x.er, .int .i64 x.n, .string x.dat] 64)) := Br.alloc Nr _; replace HRM := Hd (HRM.out.below hbe); replace HR0 := Hd (HR0.out.below hbe HR0.out.hi); replace HXB := Hd (HXB.out.trans (hbe.mono HXB.out.size)); have HTM : Hid (k = 0 ∨ ∃ m tm, k = m + 1 ∧ S.tm = tm ∧ World.cell? (wr.alloc (Obj.cells #[x.tm, .int .i64 x.pr, .int .i64 x.ix, .int .i64 x.fi, .int .i64 x.at', .int .i64 x.bg, .int .i64 x.er, .int .i64 x.n, .string x.dat] 64)) ⟨g, o + m * 9, none⟩ = some (.int .i64 tm)) := Hd (by
  rcases hTM.out with h1|⟨m,h1,h2,h3⟩
  ·exact Or.inl h1
  ·exact Or.inr ⟨m,_,h1,h2,(hbe.cell (p:=(g (o+m*9))) (by have:=World.block_lt_of_cell? _ _ h3;exact this)).trans h3⟩)
 skip
 clear hbe hTM HC;generalize wr.alloc (Obj.cells #[x.tm,x.pr,x.ix,x.fi,x.at',x.bg,x.er,x.n,.string x.dat] 64)=w1 at *;generalize hEE:wr.heap.size=E at *;go_cut [13] from 28 to 40 (fun s13 wx=>s13=.bool false∧Hid (Below w1 w1 wx))
 case first=>
  have v0:=HE.out.cell 0 (.int .i64 x.tm) rfl;rcases HTM.out with h0|⟨m,tm,h1,h2,h3⟩
  ·subst h0;go_wp2_with fail;go_quiet (fail);go_wp2_with fail;go_meet;exact ⟨rfl,Hd (below_drewN Br nq)⟩
  ·subst h1;have hle:tm≤x.tm:=by
    have h9:=HRO.out;unfold ordB at h9;have h8:((m+1:Nat):Int)=0∨(stS S).tm≤x.tm:=by
     by_cases hp:x.pr=-1
     ·rw [if_pos hp] at h9;exact of_decide_eq_true h9
     ·rw [if_neg hp] at h9;exact of_decide_eq_true (of_decide_eq_true h9).1
    have h7:(stS S).tm=S.tm:=rfl;omega
   have hwm:IntKind.i64.wrap (((m+1:Nat):Int)-1)=(m:Int):=by rw [show ((m+1:Nat):Int)-1=(m:Int) by omega];exact IntWalk.i64_in _ b10
   have hwm2:IntKind.i64.wrap ((m:Int)+1-1)=(m:Int):=by rw [show (m:Int)+1-1=(m:Int) by omega];exact IntWalk.i64_in _ b10
   have hmx:(m:Int)<(xs.length:Int):=b10;have hd:decide (x.tm<tm)=false:=decide_eq_false b10;clear hle h2 HRO;go_wp2_with fail;go_quiet (fail);go_wp2_with fail;go_meet;exact ⟨by first|rfl|simp [hd],Hd (below_drewN Br nq)⟩
 case rest=>
 obtain ⟨rfl,HB9⟩:=hcut;replace HRM:=Hd (HRM.out.below HB9.out);replace HR0:=Hd (HR0.out.below HB9.out HR0.out.hi);replace HXB:=Hd (HXB.out.trans (HB9.out.mono HXB.out.size));replace HE:=Hd (HE.out.below HB9.out HE.out.hi);clear HB9 HTM;have v1:=HE.out.cell 1 (.int .i64 x.pr) rfl;go_upto_if 43 with (fail)
 clear v1;have hSf:(stS S).fs.length=n:=HK2.out;have hSs:(stS S).scr.length=ns:=by show S.scr.length=ns;rw [HK1.out];exact HNS.out
 have HLO:Hid (∀b,b∈vs l2→W.heap.size+2≤b):=Hd HLQ.out.2.2.2.2;have HNR:Hid (W.heap.size+1∉vs l2):=Hd fun hm=>by have:=HLO.out _ hm;omega
 go_cut [12,13] from 41 to 110 (fun s12 s13 wx=>s12=.int .i64 0∧s13=.bool false∧∃l3:Ly,Hid (l3.M=Mb∧l3.pl=.slice pa n pc∧l3.sc=.slice sa ns scp∧l3.ex=[W.heap.size+1]∧∀b,b∈vs l3→W.heap.size+2≤b)∧Hid (Rm q B wx l3 S1)∧Hid (Below W W wx)∧Hid (At wx (W.heap.size+1) Z31))
 case first=>
  by_cases hp1:x.pr=-1
  ·have hkn:=HRK.out;unfold knB at hkn;rw [if_pos hp1] at hkn;have hkn2:=of_decide_eq_true hkn;obtain ⟨f,hf⟩:∃f:Nat,x.fi=(f:Int):=⟨x.fi.toNat,by omega⟩
   have hfn:f<n:=by have:=HFS0.out;omega
   have hfnI:(f:Int)<(n:Int):=b10;clear hkn hkn2;have HT:Hid (S1=failS (ordS (stS S) x) x):=Hd (HNX.out.trans (take_fail hp1));have hp1t:(x.pr==-1)=true:=by simpa using hp1
   have HP1:=Hd hp1;clear hp1;have v3:=HE.out.cell 3 (.int .i64 (f:Int)) (by rw [←hf];rfl);have v6:=HE.out.cell 6 (.int .i64 x.er) rfl;have HFE:=Hd hf;clear hf;have mA:wc.cell? (Mb 25)=some (.slice (some (l2.A 0)) n n):=by have:=HRM.out.cA;rw [hSf,HLQ.out.1] at this;exact this
   have mL:wc.cell? (Mb 26)=some (.slice (some (l2.L 0)) n n):=by have:=HRM.out.cL;rw [hSf,HLQ.out.1] at this;exact this
   have hfl:f<(ints (stS S).fa).length:=by show f<(ints S.fa).length;have:=HO1.out.fa;have:=HK2.out;simp [ints];omega
   have hll:f<(ints (stS S).la).length:=by show f<(ints S.la).length;have:=HO1.out.la;have:=HK2.out;simp [ints];omega
   have hfl2:f<S.fa.length:=by have:=HO1.out.fa;have:=HK2.out;omega
   have a0:wc.cell? (l2.A f)=some ((S.fa.getD f 0):U):=HRM.out.g.a.cell f _ (Des.ints_at S.fa f hfl2);have a1:=HRM.out.g.a.free f hfl;have a2:=HRM.out.g.a.hi;have b1:=HRM.out.g.la.free f hll;have b2:=HRM.out.g.la.hi;have b0:wc.cell? (l2.L f)=some ((S.la.getD f 0):U):=HRM.out.g.la.cell f _ (Des.ints_at S.la f (by have:=HO1.out.la;have:=HK2.out;omega));obtain ⟨hfb0,hfb1⟩:=HO1.out.fab f;have hfr:=HO2.out.fa f;have HFV:Hid (min (S.fa.getD f 0+1) 1000000=S.fa.getD f 0+1):=Hd b10;have hwr:wrap64 (S.fa.getD f 0+1)=S.fa.getD f 0+1:=IntWalk.wrap64_in _ b10;have HFAV:Hid (S.fa.getD f 0=S.fa.getD f 0):=Hd rfl;generalize hfv:S.fa.getD f 0=fv at *;have HFW:=Hd hfv;clear hfv hfl hll HFAV;have hne:=HRM.out.g.ne;obtain ⟨⟨_,mnA,mnL,_⟩,_,⟨anl,_⟩,_⟩:=hne;rw [HLQ.out.1] at mnA mnL;have mnA2:¬l2.A=Mb:=fun e=>mnA e.symm;have mnL2:¬l2.L=Mb:=fun e=>mnL e.symm;have anl2:¬l2.L=l2.A:=fun e=>anl e.symm;have hEA:¬E=l2.A:=by have:=HEV.out _ (mvs l2).2.2.1;omega
   have hEA2:¬l2.A=E:=fun e=>hEA e.symm;have hEL:¬E=l2.L:=by have:=HEV.out _ (mvs l2).2.2.2.1;omega
   have hEL2:¬l2.L=E:=fun e=>hEL e.symm;go_wp2_with fail;generalize hw4:(wc.setCell (l2.A f) (.int .i64 (fv+1))).setCell (l2.L f) x.er=w4 at *;have hvk:Vk (vs l2) wc w4:=by rw [←hw4];exact (Vk.set _ _ _ _ (mvs l2).2.2.1).trans (Vk.set _ _ _ _ (mvs l2).2.2.2.1)
   have hrm:Rm q B w4 l2 S1:=by
    rw [HT.out];have h1:Mg (rC q) B w4 l2 {stS S with fa:=(stS S).fa.set f (fv+1),la:=(stS S).la.set f x.er}:=by rw [←hw4];exact (HRM.out.g.putA f (fv+1)).putL f x.er
    have h2:Rm q B w4 l2 {stS S with fa:=(stS S).fa.set f (fv+1),la:=(stS S).la.set f x.er}:=⟨h1,HRM.out.cf,HRM.out.ch,HRM.out.cs⟩
    have h3:=h2.tm x.tm;have e:failS (ordS (stS S) x) x={stS S with tm:=x.tm,fa:=(stS S).fa.set f (fv+1),la:=(stS S).la.set f x.er}:=by
     unfold failS ordS;rw [if_pos HP1.out,HFE.out,Int.toNat_natCast];show ({stS S with tm:=x.tm,fa:=S.fa.set f (min (S.fa.getD f 0+1) 1000000),la:=S.la.set f x.er}:St)=_;rw [HFW.out,HFV.out];rfl
    rw [e];exact h3
   replace HR0:Hid (At w4 (W.heap.size+1) Z31):=Hd (Tk.at HR0.out hvk (HNR.out));replace HXB:Hid (Below W W w4):=Hd (HXB.out.trans ((hvk).below HXB.out.size (fun b hb=>Nat.le_trans b10 (HLO.out b hb))));go_meet;exact ⟨rfl,rfl,l2,HLQ,Hd hrm,HXB,HR0⟩
  ·have hkn:=HRK.out;unfold knB at hkn;rw [if_neg hp1] at hkn;have hkn2:=of_decide_eq_true hkn;obtain ⟨p,hp⟩:∃p:Nat,x.pr=(p:Int):=⟨x.pr.toNat,by omega⟩
   obtain ⟨i,hi⟩:∃i:Nat,x.ix=(i:Int):=⟨x.ix.toNat,by omega⟩
   rw [hp,hi,Int.toNat_natCast] at hkn2;have hpn:p<ns:=by have:=HNS.out;omega
   have hil : i < (s0.scr.getD p []).length := b10; clear hkn hkn2; have hro := HRO.out; unfold ordB at hro; rw [if_neg hp1, hp, Int.toNat_natCast] at hro; obtain ⟨_, hb0, hb1, hb2, hb3⟩ := of_decide_eq_true hro; clear hro; change S.bg.getD p 0 ≤ x.bg at hb2; change x.ix = S.fin.getD p 0 at hb3; have HT : Hid (S1 = if (opAt (stS S) p i).kd = 8 ∨ x.er = 0 then (planR (ordS (stS S) x) p (opAt (stS S) p i) x).2 else ordS (stS S) x) := Hd (by
    have h9:=HNX.out.trans (take_pr hp1);rw [hp,hi,Int.toNat_natCast,Int.toNat_natCast] at h9;exact h9)
   have HRE : Hid (evRes x = (planR (ordS (stS S) x) p (opAt (ordS (stS S) x) p i) x).1) := Hd (by
    have h9:=HRR.out hp1;rw [hp,hi,Int.toNat_natCast,Int.toNat_natCast] at h9;have e1:opAt s0 p i=opAt (ordS (stS S) x) p i:=by unfold opAt;rw [(ord_keep S x).1,HK1.out]
    rw [h9,e1];unfold ordS;rw [if_neg hp1];exact (plan_res S _ _ _ _ p _ x Ev.zero).symm)
   have hos:ordS (stS S) x={stS S with tm:=x.tm,bg:=S.bg.set p x.bg,fin:=S.fin.set p ((i:Int)+1)}:=by
    unfold ordS;rw [if_neg hp1,hp,Int.toNat_natCast];show ({stS S with tm:=x.tm,bg:=S.bg.set p x.bg,fin:=S.fin.set p (S.fin.getD p 0+1)}:St)=_;rw [←hb3,hi]
   have HOS:=Hd hos;clear hos;have hp1f:(x.pr==-1)=false:=by simpa using hp1
   have HP1:=Hd hp1;clear hp1;rw [hi] at hb3;have HN3:=Hd hb3.symm;have HPE:=Hd hp;have HIE:=Hd hi;have v1:=HE.out.cell 1 (.int .i64 (p:Int)) (by rw [←hp];rfl);have v2:=HE.out.cell 2 (.int .i64 (i:Int)) (by rw [←hi];rfl);have v5:=HE.out.cell 5 (.int .i64 x.bg) rfl;clear hp hi hb3;have mN:wc.cell? (Mb 29)=some (.slice (some (l2.N 0)) ns ns):=by have:=HRM.out.cN;rw [hSs,HLQ.out.1] at this;exact this
   have mB:wc.cell? (Mb 30)=some (.slice (some (l2.B 0)) ns ns):=by have:=HRM.out.cB;rw [hSs,HLQ.out.1] at this;exact this
   have hnl:p<S.fin.length:=by have:=HO1.out.fin;have:=HK1.out;have:=HNS.out;rw [HK1.out] at *;omega
   have hbl:p<S.bg.length:=by have:=HO1.out.bg;rw [HK1.out] at this;have:=HNS.out;omega
   have n0:wc.cell? (l2.N p)=some (i:U):=HRM.out.g.n.cell p _ b118;have g0:wc.cell? (l2.B p)=some ((S.bg.getD p 0):U):=HRM.out.g.b.cell p _ (Des.ints_at S.bg p hbl);have HBV:Hid ((ints S.bg)[p]? =some ((S.bg.getD p 0):U)):=Hd (Des.ints_at S.bg p hbl);generalize S.bg.getD p 0=bv at *;have hpnI:(p:Int)<(ns:Int):=b10;go_upto_region 12 with (fail)
   clear n0 g0 mN mB v1 v2 v5;go_cut [13] from 41 to 93 (fun s13 wx=>s13=.bool false∧Hid (Below wc wc wx))
   case first=>
    have v1:=HE.out.cell 1 (.int .i64 (p:Int)) (by rw [←HPE.out];rfl);have v2:=HE.out.cell 2 (.int .i64 (i:Int)) (by rw [←HIE.out];rfl);have v5:=HE.out.cell 5 (.int .i64 x.bg) rfl;have mN:wc.cell? (Mb 29)=some (.slice (some (l2.N 0)) ns ns):=by have:=HRM.out.cN;rw [hSs,HLQ.out.1] at this;exact this
    have mB:wc.cell? (Mb 30)=some (.slice (some (l2.B 0)) ns ns):=by have:=HRM.out.cB;rw [hSs,HLQ.out.1] at this;exact this
    have n0:wc.cell? (l2.N p)=some (i:U):=HRM.out.g.n.cell p _ b118;have g0:wc.cell? (l2.B p)=some (bv:U):=HRM.out.g.b.cell p _ HBV.out;have c1:¬x.bg<0:=b10;have c2:¬(k:Int)<x.bg:=b10;have c3:¬x.bg<bv:=b10;have HCC:Hid ((decide (x.bg<0)||decide ((k:Int)<x.bg)||decide (x.bg<bv))=false):=Hd b16;go_wp2_with fail;go_quiet (fail);go_wp2_with fail;go_meet;exact ⟨by first|rfl|exact congrArg Value.bool HCC.out|simp,Hd (below_drewN Br nq)⟩
   case rest=>
   obtain ⟨rfl,HB9⟩:=hcut;replace HRM:=Hd (HRM.out.below HB9.out);replace HR0:=Hd (HR0.out.below HB9.out HR0.out.hi);replace HXB:=Hd (HXB.out.trans (HB9.out.mono HXB.out.size));replace HE:=Hd (HE.out.below HB9.out HE.out.hi);clear HB9;have v1:=HE.out.cell 1 (.int .i64 (p:Int)) (by rw [←HPE.out];rfl);have v5:=HE.out.cell 5 (.int .i64 x.bg) rfl;have mN:=HRM.out.cN;rw [hSs,HLQ.out.1] at mN;have mB:=HRM.out.cB;rw [hSs,HLQ.out.1] at mB;have n0:=HRM.out.g.n.cell p (.int .i64 (i:Int)) b118;have n1:=HRM.out.g.n.free p (by show p<(ints S.fin).length;simp [ints];exact hnl);have n2:=HRM.out.g.n.hi;have g0:=HRM.out.g.b.cell p (.int .i64 bv) HBV.out;have g1:=HRM.out.g.b.free p (by show p<(ints S.bg).length;simp [ints];exact hbl);have g2:=HRM.out.g.b.hi;obtain ⟨⟨_,_,_,_,_,_,mnN,mnB⟩,_,_,_,_,_,_,nb⟩:=HRM.out.g.ne;rw [HLQ.out.1] at mnN mnB;have mnN2:¬l2.N=Mb:=fun e=>mnN e.symm;have mnB2:¬l2.B=Mb:=fun e=>mnB e.symm;have nb2:¬l2.B=l2.N:=fun e=>nb e.symm;have hEN:¬E=l2.N:=by have:=HEV.out _ (mvs l2).2.2.2.2.2.2.2.1;omega
   have hEN2:¬l2.N=E:=fun e=>hEN e.symm;have hEB:¬E=l2.B:=by have:=HEV.out _ (mvs l2).2.2.2.2.2.2.2.2;omega
   have hEB2:¬l2.B=E:=fun e=>hEB e.symm;have hiB:(i:Int)≤1000:=by have:=(HO1.out.fb p).2;rw [HN3.out] at this;omega
   have hwr:wrap64 ((i:Int)+1)=(i:Int)+1:=IntWalk.wrap64_in _ b10;go_upto_region 15 with (fail)
   generalize hw4:(World.setCell _ ⟨l2.N,p,none⟩ (.int .i64 ((i:Int)+1))).setCell (l2.B p) x.bg=w4 at *;have hvk:Vk (vs l2) wc w4:=by rw [←hw4];exact (Vk.set _ _ _ _ (mvs l2).2.2.2.2.2.2.2.1).trans (Vk.set _ _ _ _ (mvs l2).2.2.2.2.2.2.2.2)
   have HRM4 : Hid (Rm q B w4 l2 (ordS (stS S) x)) := Hd (by
    rw [HOS.out];have h1:Mg (rC q) B w4 l2 {stS S with fin:=(stS S).fin.set p ((i:Int)+1),bg:=(stS S).bg.set p x.bg}:=by rw [←hw4];exact (HRM.out.g.putN p ((i:Int)+1)).putB p x.bg
    have h2:Rm q B w4 l2 {stS S with fin:=(stS S).fin.set p ((i:Int)+1),bg:=(stS S).bg.set p x.bg}:=⟨h1,HRM.out.cf,HRM.out.ch,HRM.out.cs⟩
    exact h2.tm x.tm)
   have HE4 : Hid (At w4 E x.cells) := Hd (Tk.at HE.out hvk (fun hm => by have := HEV.out _ hm; omega)); replace HR0 : Hid (At w4 (W.heap.size + 1) Z31) := Hd (Tk.at HR0.out hvk (HNR.out)); replace HXB : Hid (Below W W w4) := Hd (HXB.out.trans ((hvk).below HXB.out.size (fun b hb => Nat.le_trans b10 (HLO.out b hb)))); clear hw4 hvk n0 n1 n2 g0 g1 g2 mN mB v1 v5 HRM HE; have HJ : Hid (Calls Tryz.prog 31 #[.pointer (some ⟨Mb, 0, none⟩), .agg x.cells.toArray] w4 fun e w3 => ∃ x' ar' hs', e = .returned (.int .i64 0) ∧ Rm q B w3 { l2 with x := x', ar := ar', hs := hs' } S1 ∧ Vk (vs l2) w4 w3) := Hd (by
    have hsc3:(ordS (stS S) x).scr=s0.scr:=(ord_keep S x).1.trans HK1.out;have hfs3:(ordS (stS S) x).fs.length=n:=by rw [(ord_keep S x).2];exact HK2.out
    have h9:=judgeM_any (k+1) q B l2 (ordS (stS S) x) p i x w4 HRM4.out (ok_ord x HO1.out) ((HO2.out.ord x).more b10) b10 (by rw [hsc3];have:=HNS.out;omega) ⟨pa,pc,by rw [hfs3];exact HLQ.out.2.1⟩ HPE.out HIE.out (by rw [hsc3];exact hil) HRE.out;have e1:opAt (ordS (stS S) x) p i=opAt (stS S) p i:=by unfold opAt;rw [hsc3];show _=(S.scr.getD p []).getD i Opr.zero;rw [HK1.out]
    rw [e1,←HT.out] at h9;rw [←HLQ.out.1];exact h9)
   go_wp2_with (with_reducible refine Des.hold_load 64 rfl ?_)
   refine Des.load_ato 0 HE4.out.r Tryz.underlying64 rfl size64 rfl rfl rfl ?_;go_wp2_with fail;refine HJ.out.mono ?_;rintro e w5 ⟨x',ar',hs',rfl,hm,hvk⟩;have HRM5:=Hd hm;replace HR0:Hid (At w5 (W.heap.size+1) Z31):=Hd (Tk.at HR0.out hvk (HNR.out));replace HXB:Hid (Below W W w5):=Hd (HXB.out.trans ((hvk).below HXB.out.size (fun b hb=>Nat.le_trans b10 (HLO.out b hb))));clear hm hvk HJ HRM4 HE4;go_wp2_with fail;go_meet;exact ⟨rfl,rfl,{l2 with x:=x',ar:=ar',hs:=hs'},HLQ,HRM5,HXB,HR0⟩
 case rest=>
 obtain ⟨rfl,rfl,l3,HLQ3,HRM3,HXB3,HR3⟩:=hcut;clear HRM HXB HR0 HE HLQ HRO HRR HRK HEV HLO HNR HNX;have HO3:Hid (Ok (k+1) S1):=HO9;have hS1:S1.st.length=n:=by have:=HO3.out.st;have:=HF9.out;omega
 go_wp2_with fail;go_loopw [14] (fun v14 wr=>∃(j:Nat) (l4:Ly),j≤n∧v14=.int .i64 j∧Hid (l4.M=Mb∧l4.pl=.slice pa n pc∧l4.sc=.slice sa ns scp∧l4.ex=[W.heap.size+1]∧∀b,b∈vs l4→W.heap.size+2≤b)∧Hid (Rm q B wr l4 (stK S1 j))∧Hid (Below W W wr)∧Hid (At wr (W.heap.size+1) Z31)) (fun v14 _=>n-(intOf v14).toNat)
 case atStart=>exact ⟨0,l3,Nat.zero_le _,rfl,HLQ3,(by rw [stK_zero];exact HRM3),HXB3,HR3⟩
 case round=>
  clear HRM3 HXB3 HR3 HLQ3;obtain ⟨j,l4,hj,rfl,HLQ4,HRM4,HXB4,HR4⟩:=hrel;have hfk:(stK S1 j).fs.length=n:=HF9.out;have HMQ:Hid (l4.M=Mb):=Hd HLQ4.out.1;have mS:World.cell? wr ⟨Mb,28,none⟩=some (.slice (some (l4.S 0)) n q.s):=by have:=HRM4.out.cS;rw [hfk,HMQ.out] at this;exact this
  by_cases hjt:j<n
  ·have hjI:(j:Int)<(n:Int):=b10;have hjs:j<S1.st.length:=b10;have hjh:j<S1.h.length:=by have:=HO3.out.h;have:=HF9.out;omega
   have HSK:=Hd (stK_succ S1 j hjs);have hnl:(S1.st.getD j []).length≤10000:=by have:=HO3.out.sl j hjs;omega
   have hcl:(S1.h.getD j ([],0)).1.length≤10000:=by have:=HO3.out.hl j hjh;omega
   have hqs:(n:Int)≤(q.s:Int):=by have:=HRM4.out.cs;rw [hfk] at this;omega
   have hqh:(n:Int)≤(q.h:Int):=by have:=HRM4.out.ch;rw [hfk] at this;omega
   have HRd:=Hd (HRM4.out.below (Below.refl wr wr).drew);have ymH:wr.cell? (Mb 27)=some (.slice (some (l4.H 0)) n q.h):=by have:=HRM4.out.cH;rw [hfk,HMQ.out] at this;exact this
   have ymS:=mS;have mH:wr.drew.cell? (Mb 27)=some (.slice (some (l4.H 0)) n q.h):=ymH;replace mS:wr.drew.cell? (Mb 28)=some (.slice (some (l4.S 0)) n q.s):=ymS;have ysS:wr.cell? (l4.S j)=some (.slice (l4.st.getD j Sl.nil).a (S1.st.getD j []).length (l4.st.getD j Sl.nil).c):=by
    have h1:=HRM4.out.g.S.cell j _ (slC_at l4.st (stK S1 j).st j (by show j<(stAt S1 j).length;rw [stAt_len];exact hjs));rw [row_k S1 j hjs] at h1;exact h1
   have sS : wr.drew.cell? ⟨l4.S, j, none⟩ = some (.slice (l4.st.getD j Sl.nil).a (S1.st.getD j []).length (l4.st.getD j Sl.nil).c) := ysS; have yhH : wr.cell? ⟨l4.H, j * 2, none⟩ = some (.slice (l4.hs.getD j Sl.nil).a (S1.h.getD j ([], 0)).1.length (l4.hs.getD j Sl.nil).c) := HRM4.out.g.h.cell (j * 2) _ (hC_at l4.hs S1.h j hjh).1; have hH : wr.drew.cell? ⟨l4.H, j * 2, none⟩ = some (.slice (l4.hs.getD j Sl.nil).a (S1.h.getD j ([], 0)).1.length (l4.hs.getD j Sl.nil).c) := yhH; have HOW : Hid (wr.drew.ownsRow B 3 1 (.slice (l4.st.getD j Sl.nil).a (S1.st.getD j []).length (l4.st.getD j Sl.nil).c) (S1.st.getD j []).length (ints (S1.st.getD j []))) := Hd (by
    have h1:=HRd.out.g.rs j (by show j<(stAt S1 j).length;rw [stAt_len];exact hjs);rw [row_k S1 j hjs] at h1;exact h1)
   have HF:Hid ((∀q,(Value.slice (l4.st.getD j Sl.nil).a (S1.st.getD j []).length (l4.st.getD j Sl.nil).c).ownBlock=some q→q∈stB l4.st)∧Mb∉stB l4.st∧l4.S∉stB l4.st∧l4.H∉stB l4.st):=Hd ⟨fun q hq=>mem_stB (by rw [HRM4.out.g.la'];show j<(stAt S1 j).length;rw [stAt_len];exact hjs) hq,by rw [←HMQ.out];exact HRM4.out.g.nst.1,HRM4.out.g.nst.2.2.2.2.2.2.1,HRM4.out.g.nst.2.2.2.2.2.1⟩;generalize (S1.h.getD j ([],0)).1.length=hL at *;generalize (l4.hs.getD j Sl.nil).a=ha at *;generalize (l4.hs.getD j Sl.nil).c=hc at *;have HLO:Hid (∀b,b∈vs l4→W.heap.size+2≤b):=Hd HLQ4.out.2.2.2.2;have HNR:Hid (W.heap.size+1∉vs l4):=Hd fun hm=>by have:=HLO.out _ hm;omega
   have HPUT:Hid (∀(wa w1:World) (g cap:Nat),Below wr wr wa→w1.ownsRow B 3 1 (.slice (some (g 0)) ((S1.st.getD j []).length+1) cap) ((S1.st.getD j []).length+1) (ints (S1.st.getD j [])++[.int .i64 (hL:Int)])→wa.grownBy w1 (Value.slice (l4.st.getD j Sl.nil).a (S1.st.getD j []).length (l4.st.getD j Sl.nil).c).ownBlock→((Value.slice (l4.st.getD j Sl.nil).a (S1.st.getD j []).length (l4.st.getD j Sl.nil).c).ownBlock=some g∨g=wa.heap.size)→Rm q B (w1.setCell (l4.S j) (.slice (some (g 0)) ((S1.st.getD j []).length+1) cap)) {l4 with st:=l4.st.set j ⟨some ⟨g,0,none⟩,cap⟩} (stK S1 (j+1))∧Below W W (w1.setCell (l4.S j) (.slice (some (g 0)) ((S1.st.getD j []).length+1) cap))∧At (w1.setCell (l4.S j) (.slice (some (g 0)) ((S1.st.getD j []).length+1) cap)) (W.heap.size+1) Z31∧(l4.M=Mb∧l4.pl=.slice pa n pc∧l4.sc=.slice sa ns scp∧l4.ex=[W.heap.size+1]∧∀b,b∈vs {l4 with st:=l4.st.set j ⟨some ⟨g,0,none⟩,cap⟩}→W.heap.size+2≤b)):=Hd fun wa w1 g cap hb h1 h2 h3=>by
    obtain ⟨h4,h5,h8⟩:=rput (HRM4.out.below hb) hjs (by have:=HF9.out;omega) h1 h2 h3 HSK.out;have h6:Below W W wa:=HXB4.out.trans (hb.mono HXB4.out.size);exact ⟨h4,h6.trans (h5.below h6.size (fun b hm=>Nat.le_trans b10 (HLO.out b hm))),Tk.at (HR4.out.below hb HR4.out.hi) h5 HNR.out,HLQ4.out.1,HLQ4.out.2.1,HLQ4.out.2.2.1,HLQ4.out.2.2.2.1,fun b hm=>by
     rcases h8 b hm with h9|h9
     ·exact HLO.out b h9
     ·have:=HR4.out.hi;have:=hb.size;omega⟩
   have fS:wr.drew.frozen? (l4.S j)=false:=HRd.out.g.S.free j (by rw [slC_len];show j<(stAt S1 j).length;rw [stAt_len];exact hjs);have hSS:l4.S<wr.heap.size:=HRM4.out.g.S.hi;have hHH:l4.H<wr.heap.size:=HRM4.out.g.h.hi;have hMM:Mb<wr.heap.size:=by rw [←HMQ.out];exact HRM4.out.g.m.hi
   have hB:B≤wr.heap.size:=HRM4.out.g.hB;have m1:¬l4.S=Mb:=by rw [←HMQ.out];exact HRM4.out.g.ne.1.2.2.2.2.2.1.symm
   have m2:¬Mb=l4.S:=fun e=>m1 e.symm;have m3:¬l4.H=l4.S:=HRM4.out.g.ne.2.2.2.2.2.1.1;have m4:¬l4.S=l4.H:=fun e=>m3 e.symm;generalize (S1.st.getD j [])=row at *;generalize hslk:l4.st.getD j Sl.nil=slk at *;obtain ⟨a0,c0⟩:=slk;simp only at sS ysS HOW HF HPUT;obtain ⟨i0,hi,hz0,hz1,hz2⟩:=info_parts Des.int_info;have HI:=Hd hi;have HZ:=Hd hz0;have HZ1:=Hd hz1;have HZ2:=Hd hz2;clear hi hz0 hz1 hz2 hslk HSK HRd HRM4 HXB4 HR4;have n1:¬Mb=wr.heap.size:=b10;have n2:¬wr.heap.size=Mb:=b10;have n3:¬wr.heap.size=l4.S:=b10;have n4:¬l4.S=wr.heap.size:=b10;have n5:¬wr.heap.size=l4.H:=b10;have n6:¬l4.H=wr.heap.size:=b10;have hne1:some Mb≠(Value.slice a0 row.length c0).ownBlock:=fun e=>HF.out.2.1 (HF.out.1 _ e.symm);have hne2:some l4.S≠(Value.slice a0 row.length c0).ownBlock:=fun e=>HF.out.2.2.1 (HF.out.1 _ e.symm);have hne3:some l4.H≠(Value.slice a0 row.length c0).ownBlock:=fun e=>HF.out.2.2.2 (HF.out.1 _ e.symm);go_upto_region 23 with (fail)
   refine wp_region_held_drew (S:=fun w'=>w'.cell? (Mb 28)=some (.slice (some (l4.S 0)) n q.s)∧w'.cell? (Mb 27)=some (.slice (some (l4.H 0)) n q.h)∧w'.cell? (l4.H (j*2))=some (.slice ha hL hc)) b12 b15 (fun hHeld=>?_);refine tk 0 ?_;refine tk 1 ?_;refine tk 2 ?_;refine tk 3 ?_;refine tk 4 ?_;refine tk 5 ?_;refine tk 6 ?_;refine tk 8 ?_;refine tk 9 ?_;refine tk 10 ?_;refine tk 11 ?_;refine tk 12 ?_;refine tk 13 ?_;refine tk 14 ?_;refine wpAnyH_ready (rs:=[7,15]) b12 b11 ?_;refine AllReadyH.cons (o:=⟨some 134,.load 22 (.tmp 133),22,_,#[⟨6,.data⟩],none⟩) rfl (fun KQ hKQ=>?_) (AllReadyH.cons (o:=⟨some 142,.buildSlice 22 1 #[(0,.tmp 141)],22,_,#[⟨14,.data⟩],none⟩) rfl (fun KQ hKQ=>?_) AllReadyH.nil)
   ·go_simp;refine hKQ.out _ _ b15 (fun hHeld=>?_);clear hKQ KQ;try go_frame
    refine wpAnyH_ready (rs:=[15]) b12 b11 ?_;refine AllReadyH.cons (o:=⟨some 142,.buildSlice 22 1 #[(0,.tmp 141)],22,_,#[⟨14,.data⟩],none⟩) rfl (fun KQ hKQ=>?_) AllReadyH.nil;exact cl103
   ·go_simp;refine hKQ.out _ _ b15 (fun hHeld=>?_);clear hKQ KQ;try go_frame
    refine wpAnyH_ready (rs:=[7]) b12 b11 ?_;refine AllReadyH.cons (o:=⟨some 134,.load 22 (.tmp 133),22,_,#[⟨6,.data⟩],none⟩) rfl (fun KQ hKQ=>?_) AllReadyH.nil;exact cl103
  ·obtain rfl:j=n:=b10;have hjI:¬(j:Int)<(j:Int):=b10;go_wp2_with fail;go_roundw
   case rel=>exact ⟨k+1,l4,by omega,by go_num,rfl,HLQ4,(by rw [show stS (runS s0 xs (k+1)).1=stK S1 j from by rw [HS19.out,←hS1];rfl];exact HRM4),HXB4,HR4⟩
   case measure=>simp [intOf];omega):p:=h
theorem km41 {p : Prop} (h:p:=by
 have hrm0:Rm q B1 w3 {l with M:=w2.heap.size} (stS (runS s0 xs 0).1):=HM.out.moveM HB3.out (by rw [←HMC.out];exact HM3.out) Nr;replace HX:=Hd (HX.out.below HB3.out);have HXB:Hid (Below W W w3):=Hd HX.out.bel;obtain ⟨B,hBW⟩:∃B,B=W.heap.size:=⟨_,rfl⟩
 have HBW := Hd hBW; have HRM : Hid (Rm q B w3 { l with M := w2.heap.size, ex := [W.heap.size + 1] } (stS (runS s0 xs 0).1)) := Hd (by
  rw [hBW];have h1:=HBB.out;refine hrm0.base b10 ?_ HLX.out b10 b10 HNW.out.1 HNW.out.2.1 HNW.out.2.2;have h2:ScIn W.heap.size w3 (.slice sa ns scp) s0.scr:=HSI.out.below HXB.out;rw [←HSL.out] at h2;exact h2)
 have HVB:Hid (∀b,b∈vs {l with M:=w2.heap.size,ex:=[W.heap.size+1]}→W.heap.size+2≤b):=Hd fun b hb=>by have h1:=hrm0.g.lo b hb;have:=HBB.out;omega
 have HR0:Hid (At w3 (W.heap.size+1) Z31):=Hd HX.out.r;have HLQ:Hid (({l with M:=w2.heap.size,ex:=[W.heap.size+1]}:Ly).M=w2.heap.size∧({l with M:=w2.heap.size,ex:=[W.heap.size+1]}:Ly).pl=.slice pa n pc∧({l with M:=w2.heap.size,ex:=[W.heap.size+1]}:Ly).sc=.slice sa ns scp∧({l with M:=w2.heap.size,ex:=[W.heap.size+1]}:Ly).ex=[W.heap.size+1]∧∀b,b∈vs {l with M:=w2.heap.size,ex:=[W.heap.size+1]}→W.heap.size+2≤b):=Hd ⟨rfl,HPL.out,HSL.out,rfl,HVB.out⟩;clear hrm0 HM HM3 HB3 HMC HX HPL HSL HLX HR1lt HVB HNW HBB hBW HSI;generalize ({l with M:=w2.heap.size,ex:=[W.heap.size+1]}:Ly)=l at *;generalize w2.heap.size=Mb at *;go_wp2_with fail;go_loopw [9,10] (fun v9 v10 wr=>∃(k:Nat) (l2:Ly),k≤xs.length∧v10=.int .i64 k∧v9=.slice none 0 0∧Hid (l2.M=Mb∧l2.pl=.slice pa n pc∧l2.sc=.slice sa ns scp∧l2.ex=[W.heap.size+1]∧∀b,b∈vs l2→W.heap.size+2≤b)∧Hid (Rm q B wr l2 (stS (runS s0 xs k).1))∧Hid (Below W W wr)∧Hid (At wr (W.heap.size+1) Z31)) (fun _ v10 _=>xs.length-(intOf v10).toNat)
 case atStart=>exact ⟨0,l,Nat.zero_le _,rfl,rfl,HLQ,HRM,HXB,HR0⟩
 case round=>
  clear HRM HXB HR0 HLQ;obtain ⟨k,l2,hk,rfl,rfl,HLQ,HRM,HXB,HR0⟩:=hrel;by_cases hlt:k<xs.length
  ·have hltI : (k : Int) < (xs.length : Int) := b10; obtain ⟨g, o, rfl, hg, hec, hec2, hcs⟩ := HCELL.out k hlt; have hecI : (xs.length : Int) ≤ (ec : Int) := b10; have hTM : Hid (k = 0 ∨ ∃ m, k = m + 1 ∧ (runS s0 xs k).1.tm = (xs.getD m Ev.zero).tm ∧ wr.cell? ⟨g, o + m * 9, none⟩ = some ((xs.getD m Ev.zero).tm:U)) := Hd (by
    rcases k with _ |m
    ·exact Or.inl rfl
    ·obtain ⟨g2,o2,e1,hg2,_,_,hcs2⟩:=HCELL.out m b10;cases e1;exact Or.inr ⟨m,rfl,take_tm _ _ _,(HXB.out.cell (p:=(g (o+m*9))) hg).trans (hcs2 0 _ rfl)⟩)
   have HC:Hid (∀j u,(xs.getD k Ev.zero).cells[j]? =some u→wr.cell? (g (o+k*9+j))=some u):=Hd fun j u hu=>(HXB.out.cell (p:=(g (o+k*9+j))) hg).trans (hcs j u hu);have HRO:=Hd (HRI.out.ord k hlt);have HRR:=Hd (HRI.out.res k hlt);have HRK:Hid (knB s0 (xs.getD k Ev.zero)=true):=Hd (HRI.out.kn _ (by rw [show xs.getD k Ev.zero=xs[k] from by simp [List.getD,hlt]];exact List.getElem_mem hlt));have HNX:Hid ((runS s0 xs (k+1)).1=(takeS (runS s0 xs k).1 (k:Int) (xs.getD k Ev.zero)).2):=Hd rfl;have HO1:=Hd (HOK.out k);have HO2:=Hd (HOKR.out k);obtain ⟨hkp1,hkp2⟩:=HKP.out k;have HK1:=Hd hkp1;have HK2:=Hd hkp2;have HO9:=Hd (HOK.out (k+1));have HF9:=Hd (HKP.out (k+1)).2;have HS19:Hid ((runS s0 xs (k+1)).1=(runS s0 xs (k+1)).1):=Hd rfl;generalize hS1x:(runS s0 xs (k+1)).1=S1 at HNX HO9 HF9;replace HS19:=Hd hS1x;clear hS1x;generalize hS:(runS s0 xs k).1=S at *;generalize hx0:xs.getD k Ev.zero=x at *;clear hcs hS hx0 hkp1 hkp2;exact cm9
  ·obtain rfl:k=xs.length:=b10;have hltI:¬(xs.length:Int)<(xs.length:Int):=b10;go_wp2_with (with_reducible refine Des.hold_load 90 rfl ?_)
   have hml:(rC q l2 (stS (runS s0 xs xs.length).1)).length=31:=rfl;have hone:(rC q l2 (stS (runS s0 xs xs.length).1)).toArray.all (·.oneCell')=true:=by simp [rC,fx,Value.oneCell',HLQ.out.2.1,HLQ.out.2.2.1]
   have HAM:Hid (At wr Mb (rC q l2 (stS (runS s0 xs xs.length).1))):=Hd (by rw [←HLQ.out.1];exact HRM.out.g.m);refine Des.load_ato 0 HAM.out.r Tryz.underlying90 rfl (by rw [hml];exact size90) rfl rfl rfl ?_;go_wp2_with (with_reducible refine Des.hold_store 90 rfl ?_)
   refine Des.store_ato 0 (n:=31) (rC q l2 (stS (runS s0 xs xs.length).1)) HR0.out.t hml size90 hone rfl rfl rfl rfl ?_;intro w9 hw9;have HR9:Hid (At w9 (W.heap.size+1) (rC q l2 (stS (runS s0 xs xs.length).1))):=Hd (by rw [hw9];exact HR0.out.store _ rfl);have HVK:Hid (Vk [W.heap.size+1] wr w9):=Hd (by rw [hw9];exact Vk.cells _ b11 _ 0 wr);have HLO:Hid (∀b,b∈vs l2→W.heap.size+2≤b):=Hd HLQ.out.2.2.2.2;have HB9:Hid (Below W W w9):=Hd (by rw [hw9];exact below_setCells HXB.out b10 _ 0);have HRM9:Hid (Rm q B w9 l2 (stS (runS s0 xs xs.length).1)):=Hd (HRM.out.other HVK.out (by rw [HLQ.out.2.2.2.1];simp) (fun hm=>by have:=HLQ.out.2.2.2.2 _ hm;omega));clear hw9 hone hml HR0 HRM HXB;go_wp2_with fail;exact bodyPost_ret (v:=.tuple #[.agg (rC q l2 (stS (runS s0 xs xs.length).1)).toArray,σ]) (results_cell2 _ _ _ rfl w9 _ _ _ rfl rfl _ HR9.out.r Tryz.underlying90 rfl size90) rfl ⟨q,B,l2,rfl,HRM9.out,HLQ.out.2.1,HLQ.out.2.2.1,by have:=HBW.out;omega,HB9.out⟩):p:=h
end Ac5k
open Ac5k in
set_option maxHeartbeats 64000000 in
theorem run_of (n:Nat) (pa:Option Addr) (pc:Nat) (scr:List (List Opr)) (sa:Option Addr) (scp ns:Nat) (a:Option Addr) (ln c:Nat) (v:Value) (s0:St) (xs:List Ev) (W:World)
 (hst:∀W',Below W W W'→Calls Tryz.prog 30 #[.agg (cfgC (.slice pa n pc) (.slice sa ns scp)).toArray,.slice a ln c] W' (StaP W' (.slice pa n pc) (.slice sa ns scp) (stS s0)))
 (ok:Ok 0 s0) (okr:Okr 0 s0) (hfs:s0.fs.length=n) (hns:s0.scr.length=ns) (hsc:ScIn W.heap.size W (.slice sa ns scp) s0.scr) (hev:EvRow W v xs) (hx:xs.length≤1000) (hri:Right s0 xs):
 Calls Tryz.prog 21 #[.agg (cfgC (.slice pa n pc) (.slice sa ns scp)).toArray,.slice a ln c,v] W (RunP W (.slice pa n pc) (.slice sa ns scp) (stS (runS s0 xs xs.length).1)):=by
 obtain ⟨ea,ec,rfl,hcell⟩:=hev.open';have HCELL:=Hd hcell;have HST:=Hd hst;have HRI:=Hd hri;have HOK:Hid (∀k,Ok k (runS s0 xs k).1):=Hd fun k=>run_ok ok xs k;have HOKR:Hid (∀k,Okr k (runS s0 xs k).1):=Hd fun k=>okr.run xs k;have HKP:Hid (∀k,(runS s0 xs k).1.scr=s0.scr∧(runS s0 xs k).1.fs.length=n):=Hd fun k=>⟨(run_keep s0 xs k).1,(run_keep s0 xs k).2.trans hfs⟩
 have hn1:1≤n:=by have:=okr.n1;omega
 have hnI:(n:Int)≤1000:=by have:=ok.nf;omega
 have hnsI:(ns:Int)≤1000:=by have:=ok.ns;omega
 have hxI:(xs.length:Int)≤1000:=b10;have HFS0:=Hd hfs;have HNS:=Hd hns;have HSI:=Hd hsc;clear hcell hst hri hev ok okr hfs hns hsc;have HX:=Hd (Bx2.start W (cfgC (.slice pa n pc) (.slice sa ns scp)) Z31 44 90);obtain ⟨cf,hcf⟩:∃cf,cf=cfgC (.slice pa n pc) (.slice sa ns scp):=⟨_,rfl⟩
 have HCF:=Hd hcf;rw [←hcf] at HX HST ⊢;have hsz44:(Tryz.prog.info? 44).map (·.size)=some cf.length:=by rw [hcf];exact size44
 clear hcf;go_enter Tryz.func21,Tryz.ntmps21;go_upto_region 1 with (fail)
 change Code.wp _ _ _ _ ((W.alloc (.cells cf.toArray 44)).alloc (.cells Z31.toArray 90));generalize World.alloc _ (Obj.cells Z31.toArray 90)=W1 at *;go_wp2_with (with_reducible refine Des.hold_load 44 rfl ?_)
 refine Des.load_ato 0 HX.out.t.r Tryz.underlying44 rfl hsz44 rfl rfl rfl ?_;clear hsz44;go_wp2_with fail;refine (HST.out _ HX.out.bel).mono ?_;rintro e w2 ⟨q,l,rfl,hm,hpl,hsl,hex,hnw,hb⟩;have HBB:Hid (W.heap.size+2≤W1.heap.size):=Hd (by have:=HX.out.r.hi;omega);have HM:=Hd hm;have HPL:=Hd hpl;have HSL:=Hd hsl;have HLX:=Hd hex;have HNW:=Hd hnw;replace HX:=Hd (HX.out.below hb);have HC:=Hd (rC_len q l (stS s0));have HR1lt:Hid (W.heap.size+1<w2.heap.size):=Hd HX.out.r.hi;have hone:(rC q l (stS s0)).toArray.all (·.oneCell')=true:=by simp [rC,fx,Value.oneCell',hpl,hsl]
 clear hm hpl hsl hex hnw hb HST;generalize W1.heap.size=B1 at *;obtain ⟨mc,hmc⟩:∃mc,mc=rC q l (stS s0):=⟨_,rfl⟩
 exact cm41
end Go.Proofs.YtimhaidiclbnhaaGreat.Ver
