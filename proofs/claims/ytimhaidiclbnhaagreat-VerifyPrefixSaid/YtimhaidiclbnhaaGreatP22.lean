import Derived.Test.YtimhaidiclbnhaaGreatP20
set_option linter.unusedSimpArgs false
set_option linter.unusedVariables false
set_option maxRecDepth 100000
open Go.ChangeShapes Go.WideShapes Go.ChangeAt Go.RowKit
namespace Go.Proofs.YtimhaidiclbnhaaGreat.Ver
open Des (Dv De Dn DIn DBlk DAns Vi At RowOf ints DSz numE numV lookV updD updE)
open Ara (Ar ARow)
open Con (StrRow)
set_option maxHeartbeats 8000000 in
theorem update_any (B:Nat) (l:Ly) (s:St) (p:Int) (o:Opr) (x:Ev) (n:Int) (D:Dn) (W:World) (h:Mm B W l s) (hr:Des.Rt s.d):
 Calls Tryz.prog 94 #[stepV l.M p o x,n,.agg #[D.fi,D.fl,D.f,D.cu,D.rf]] W fun e w'=>∃y:Dv,e=.returned (.tuple #[])∧y.pl=updD s.d n D.f D.cu∧Mm B w' {l with x:=y} {s with d:=y.pl}∧Vk (vs l) W w':=by
 have HU:Hid (∀W',Below W W W'→Calls Tryz.prog 98 #[.agg #[.slice l.x.oa l.x.o.length l.x.oc,.slice l.x.ta l.x.t.length l.x.tc],n,.agg #[D.fi,D.fl,D.f,D.cu,D.rf]] W' fun e w'=>∃y:Dv,e=.returned (.tuple #[.agg #[.slice y.oa y.o.length y.oc,.slice y.ta y.t.length y.tc],(updE s.d n D.f D.cu)])∧y.pl=updD s.d n D.f D.cu∧DAns W' l.x w' y∧Below W' W' w'):=Hd fun W' hb=>by
  have h1:=Des.upd_v l.x n D.fi D.fl D.f D.cu D.rf W' (h.below hb).im.di.di (h.dz hr);rw [h.im.dp] at h1;exact h1
 have HM:=Hd h;have HX:=Hd (Bx2.start W (stepC l.M p o x) [D.fi,D.fl,D.f,D.cu,D.rf] 122 126);unfold stepV;obtain ⟨cs,hcs⟩:∃cs,cs=stepC l.M p o x:=⟨_,rfl⟩
 have HCS:=Hd hcs;rw [←hcs] at HX ⊢;clear hcs h;generalize updE s.d n D.f D.cu=ue at *;go_enter Tryz.func94,Tryz.ntmps94;go_upto_region 1 with (fail)
 generalize World.alloc _ (Obj.cells #[D.fi,D.fl,D.f,D.cu,D.rf] 126)=W1 at *;have HX0:=HX;replace HX:=Hd (HX.out.below Br.drew);have t0:=HX.out.t.cell 0 (.pointer (some (l.M 0))) b13;obtain ⟨mO,mP⟩:=(HM.out.below HX.out.bel).cO;obtain ⟨⟨d0,d1,d2,d3,d4⟩,_,_⟩:=Des.At.five HX.out.r;have z0:=(HM.out.below HX.out.bel).m.free 24 b27;have z1:=(HM.out.below HX.out.bel).m.free 25 b27;have z2:=(HM.out.below HX.out.bel).m.hi
 (first|go_region_with (first|(go_at_call 98;refine (HU.out _ HX.out.bel).mono ?_;rintro e w2 ⟨y,rfl,hpl,ha,hb⟩;have HA:=Hd ha;have HP:=Hd hpl;have HX2:=Hd (HX.out.below hb);clear ha hpl hb t0 mO mP d0 d1 d2 d3 d4 z0 z1 z2;have t0:=HX2.out.t.cell 0 (.pointer (some (l.M 0))) b13;have z0:=(HM.out.below HX2.out.bel).m.free 24 b27;have z1:=(HM.out.below HX2.out.bel).m.free 25 b27;have z2:=(HM.out.below HX2.out.bel).m.hi;obtain ⟨mO,mP⟩:=(HM.out.below HX2.out.bel).cO))|fail)
 all_goals
  go_wp2_with fail;go_end0;exact ⟨y,rfl,HP.out,(HM.out.below HX2.out.bel).putO y (HA.out.vi (HM.out.below HX.out.bel).im.di (HM.out.below HX.out.bel).hix),(Vk.ofBelow HX2.out.bel).trans ((Vk.set _ _ _ _ (mvs l).1).trans (Vk.set _ _ _ _ (mvs l).1))⟩
open Des (Dv De Dn DIn DBlk DAns Vi At RowOf ints DSz)
def Far (B:Nat) (l:Ly) (s:St) (W w' W2:World):Prop:=∃(q:Nat) (W0:World),Mm B W0 l s∧Below W0 W0 W∧W0.heap.size≤q∧q<W.heap.size∧Vk [q] w' W2
theorem Far.mm {B:Nat} {l:Ly} {s:St} {W w' W2:World} (h:Far B l s W w' W2) (hb:Below W W w'):Mm B W2 l s:=by
 obtain ⟨q,W0,h0,h1,h2,h3,h4⟩:=h;have h5:Below W0 W0 w':=h1.trans (hb.mono h1.size);exact h0.below ⟨h4.os.trans h5.os,h4.tape.trans h5.tape,h4.output.trans h5.output,Nat.le_trans h5.size h4.size,fun k hk=>(h4.block k b16 (Nat.lt_of_lt_of_le hk h5.size)).trans (h5.block k hk)⟩
theorem Far.at {B:Nat} {l:Ly} {s:St} {W w' W2:World} {b:Nat} {cs:List Value} (h:Far B l s W w' W2) (ha:At w' b cs) (hb:W.heap.size≤b):At W2 b cs:=by
 obtain ⟨q,W0,h0,h1,h2,h3,h4⟩:=h;exact At.keepB ha h4.size (h4.block b b16 ha.hi)
theorem Far.vi {B:Nat} {l:Ly} {s:St} {W w' W2:World} {y:Dv} (h:Far B l s W w' W2) (hv:Vi w' (vx l) y) (hb:∀b,DBlk y b→DBlk l.x b∨W.heap.size≤b):Vi W2 (vx l) y:=by
 obtain ⟨q,W0,h0,h1,h2,h3,h4⟩:=h;refine ⟨hv.di.keepB h4.size fun b hd=>h4.block b ?_ (hv.di.blk hd),hv.out⟩;simp only [List.mem_cons,List.not_mem_nil,or_false];rcases hb b hd with h5|h5
 ·have:=h0.im.di.di.blk h5;omega
 ·omega
theorem Far.row {B lo c:Nat} {l:Ly} {s:St} {W w' W2:World} {a:Option Addr} {L:List Ar} (h:Far B l s W w' W2) (hr:ARow lo a c L w') (hb:∀q,a=some q→W.heap.size≤q.block):ARow lo a c L W2:=by
 obtain ⟨q,W0,h0,h1,h2,h3,h4⟩:=h;rcases hr with hr|⟨g,e1,e2,e3,e4,e5,e6⟩
 ·exact Or.inl hr
 ·have hg:=hb _ e1;have hkg:W2.heap[g]? =w'.heap[g]?:=h4.block g (by simp;simp at hg;omega) e3;exact Or.inr ⟨g,e1,e2,Nat.lt_of_lt_of_le e3 h4.size,e4,e5,fun j hj=>(e6 j hj).eq (fun i=>World.cell?_of_block (w:=w') (a:=⟨g,i,none⟩) hkg)⟩
def DoOK (B:Nat) (W w':World) (l:Ly) (s s':St) (dv:Value):Prop:=
 (dv=.nilFunc∧s'=s)∨∃k caps,dv=.func (.func k) #[] caps∧(∀args w,(callFunc k args).run Tryz.prog w=.ok (.enter k args) w)∧∀W2,Far B l s W w' W2→Calls Tryz.prog k caps W2 fun e w3=>∃x' ar' hs',e=.returned (.tuple #[])∧Mm B w3 {l with x:=x',ar:=ar',hs:=hs'} s'∧Vk (vs l) W2 w3
def PlanP (B:Nat) (W:World) (l:Ly) (s:St) (r:Res) (s':St) (e:Ending) (w':World):Prop:=
 ∃dv,e=.returned (.agg #[r.er,r.n,.string r.dat,dv])∧Below W W w'∧DoOK B W w' l s s' dv
def badR (e:Int):Res:=⟨e,0,⟨#[]⟩⟩
theorem At.four {W:World} {b:Nat} {a0 a1 a2 a3:Value} (h:At W b [a0,a1,a2,a3]):(W.cell? (b 0)=some a0∧W.cell? (b 1)=some a1∧W.cell? (b 2)=some a2∧W.cell? (b 3)=some a3)∧(W.frozen? (b 0)=false∧W.frozen? (b 1)=false∧W.frozen? (b 2)=false∧W.frozen? (b 3)=false)∧b<W.heap.size:=
 ⟨⟨h.cell 0 _ rfl,h.cell 1 _ rfl,h.cell 2 _ rfl,h.cell 3 _ rfl⟩,⟨h.free 0 b11,h.free 1 b11,h.free 2 b11,h.free 3 b11⟩,h.hi⟩
theorem At.one {W:World} {b:Nat} {a0:Value} (h:At W b [a0]):W.cell? (b 0)=some a0∧W.frozen? (b 0)=false∧b<W.heap.size:=⟨h.cell 0 _ rfl,h.free 0 b11,h.hi⟩
theorem Vi.sets {V:List Nat} {x:Dv} {D:Nat} (hD:D∈V):∀(us:List Value) (o:Nat) {W:World},Vi W V x→Vi (W.setCells D o us) V x
 |[],_,_,h=>h
 |u::us,o,_,h=>Vi.sets hD us (o+1) (h.set hD o u)
section
variable {B:Nat} {W1 w2:World} {l:Ly} {s:St} {y:Dv}
theorem dy_after (hb:Below W1 W1 w2) (ha:DAns W1.drew l.x w2 y) (o:Obj):DAns W1 l.x (w2.alloc o) y:=⟨ha.di.below (Br.alloc Nr o),ha.blk⟩
theorem dsets {W:World} {D:Nat} (us:List Value) (h:DIn W y) (hD:∀b,DBlk y b→b≠D):DIn (W.setCells D 0 us) y:=
 (Vi.sets (V:=[D]) b11 us 0 ⟨h,fun b hb hm=>hD b hb (by simpa using hm)⟩).di
theorem dy_before {zs:List Value} {T:TypeId} (h:Mm B W1 l s) (ha:DAns (W1.alloc (.cells zs.toArray T)).drew l.x w2 y) (us:List Value):DAns W1 l.x (w2.setCells W1.heap.size 0 us) y:=by
 exact cl45
theorem dn_vi {W wx:World} {R:Nat} (hm:Mm B W l s) (hR:W.heap.size≤R) (hR1:R<W1.heap.size) (ha:DAns W1 l.x wx y) (us:List Value):Vi (wx.setCells R 0 us) (vx l) y:=by
 refine ⟨dsets us ha.di fun b hb=>?_,fun b hb hv=>?_⟩
 ·rcases ha.blk b hb with h1|h1
  ·have:=hm.im.di.di.blk h1;omega
  ·omega
 ·rcases ha.blk b hb with h1|h1
  ·exact hm.im.di.out b h1 hv
  ·have:=hm.hix b hv;omega
end
def d2 (y:Dv):List Value:=[.slice y.oa y.o.length y.oc,.slice y.ta y.t.length y.tc]
namespace Ajqy
theorem km11 {p : Prop} (h:p:=by
 go_enter Tryz.func88,Tryz.ntmps88;go_wp2_with fail;go_end0;exact ⟨y,l.ar,l.hs,rfl,HP.out,HV.out⟩):p:=h
end Ajqy
open Ajqy in
set_option maxHeartbeats 2000000 in
theorem clo88 (B:Nat) (l:Ly) (s:St) (p:Int) (o:Opr) (x:Ev) (y:Dv) (X T:Nat) (W:World) (h:Mm B W l s) (hT:At W T (stepC l.M p o x)) (hX:At W X (d2 y)) (hy:Vi W (vx l) y):
 Calls Tryz.prog 88 #[.pointer (some (X 0)),.pointer (some (T 0))] W fun e w3=>∃x' ar' hs',e=.returned (.tuple #[])∧Mm B w3 {l with x:=x',ar:=ar',hs:=hs'} {s with d:=y.pl}∧Vk (vs l) W w3:=by
 exact cm11
namespace Akv5
theorem km11 {p : Prop} (h:p:=by
 go_enter Tryz.func90,Tryz.ntmps90;go_wp2_with fail;go_end0;exact ⟨y,l.ar,l.hs,rfl,HP.out,HV.out⟩):p:=h
end Akv5
open Akv5 in
set_option maxHeartbeats 2000000 in
theorem clo90 (B:Nat) (l:Ly) (s:St) (p:Int) (o:Opr) (x:Ev) (y:Dv) (X T:Nat) (W:World) (h:Mm B W l s) (hT:At W T (stepC l.M p o x)) (hX:At W X (d2 y)) (hy:Vi W (vx l) y):
 Calls Tryz.prog 90 #[.pointer (some (X 0)),.pointer (some (T 0))] W fun e w3=>∃x' ar' hs',e=.returned (.tuple #[])∧Mm B w3 {l with x:=x',ar:=ar',hs:=hs'} {s with d:=y.pl}∧Vk (vs l) W w3:=by
 exact cm11
namespace Ar1b
theorem km11 {p : Prop} (h:p:=by
 go_enter Tryz.func114,Tryz.ntmps114;go_wp2_with fail;go_end0;exact ⟨y,l.ar,l.hs,rfl,HP.out,HV.out⟩):p:=h
end Ar1b
open Ar1b in
set_option maxHeartbeats 2000000 in
theorem clo114 (B:Nat) (l:Ly) (s:St) (p:Int) (o:Opr) (x:Ev) (y:Dv) (X T:Nat) (W:World) (h:Mm B W l s) (hT:At W T (stepC l.M p o x)) (hX:At W X (d2 y)) (hy:Vi W (vx l) y):
 Calls Tryz.prog 114 #[.pointer (some (X 0)),.pointer (some (T 0))] W fun e w3=>∃x' ar' hs',e=.returned (.tuple #[])∧Mm B w3 {l with x:=x',ar:=ar',hs:=hs'} {s with d:=y.pl}∧Vk (vs l) W w3:=by
 exact cm11
def openedR (s:St) (p:Int) (o:Opr):Res×St:=
 if o.fi<0∨(s.fs.length:Int)≤o.fi then (badR 2,s) else
 if Des.openE s.d p o.fi o.fl (s.fa.getD o.fi.toNat 0)=0 then (⟨0,Des.openF s.d p o.fi o.fl (s.fa.getD o.fi.toNat 0),⟨#[]⟩⟩,{s with d:=Des.openD s.d p o.fi o.fl (s.fa.getD o.fi.toNat 0)}) else (badR (Des.openE s.d p o.fi o.fl (s.fa.getD o.fi.toNat 0)),s)
namespace Arz0
theorem km4 {p : Prop} (h:p:=by
 exact cm127):p:=h
theorem km23 {p : Prop} (h:p:=by
 have hmA:l.A<W1.heap.size:=HM1.out.hi _ (by simp [vs]);have f1A:¬W1.heap.size=l.A:=b10;have f2A:¬l.A=W1.heap.size:=b10;have yt0:=HX0.out.t.cell 0 (.pointer (some (l.M 0))) b13;have yt1:=HX0.out.t.cell 1 (.int .i64 p) b13;have yt4:=HX0.out.t.cell 4 (.int .i64 (f:Int)) (by rw [HCS.out,←HF.out];rfl);have yt5:=HX0.out.t.cell 5 (.int .i64 o.fl) b13;obtain ⟨ymO,ymP⟩:=(HM.out.below HX0.out.bel).cO;have ymA:=(HM.out.below HX0.out.bel).cA;have ya:=(HM.out.below HX0.out.bel).a.cell f (.int .i64 v) b106;have t0:=HX.out.t.cell 0 (.pointer (some (l.M 0))) b13;have t1:=HX.out.t.cell 1 (.int .i64 p) b13;have t4:=HX.out.t.cell 4 (.int .i64 (f:Int)) (by rw [HCS.out,←HF.out];rfl);have t5:=HX.out.t.cell 5 (.int .i64 o.fl) b13;obtain ⟨mO,mP⟩:=(HM.out.below HX.out.bel).cO;have mA:=(HM.out.below HX.out.bel).cA;have a:=(HM.out.below HX.out.bel).a.cell f (.int .i64 v) b106;go_region_held3 (fun w'=>w'.cell? (W 0 0)=some (.pointer (some (l.M 0)))∧w'.cell? (W 0 1)=some (p:U)∧w'.cell? (W 0 4)=some (f:U)∧w'.cell? (W 0 5)=some (o.fl:U)∧w'.cell? (l.M 24)=some (.slice l.x.oa l.x.o.length l.x.oc)∧w'.cell? (l.M 25)=some (.slice l.x.ta l.x.t.length l.x.tc)∧w'.cell? (l.M 22)=some (.slice (some (l.A 0)) s.fs.length s.fs.length)∧w'.cell? (l.A f)=some (v:U)) (go_keep) (first|(go_at_call 87;refine (HC.out _ b32).mono ?_;rintro e w2 ⟨y,rfl,hpl,ha,hb⟩;have HPL:=Hd hpl;have HDA:=Hd ha;clear hpl ha;(first|(have HA:=Hd hb;replace HX:=Hd (HX.out.below hb))|(have HB:=Hd hb;obtain ⟨_,_,f0,f1,fh⟩:=Des.At.two (((At.new W1 [σ,σ] 83).drew).below hb b38);replace HX:=Hd ((HX.out.below (Br.alloc Nr _)).below hb)));clear hb t0 t1 t4 t5 mO mP mA a;have t0:=HX.out.t.cell 0 (.pointer (some (l.M 0))) b13;have t1:=HX.out.t.cell 1 (.int .i64 p) b13;have t4:=HX.out.t.cell 4 (.int .i64 (f:Int)) (by rw [HCS.out,←HF.out];rfl);have t5:=HX.out.t.cell 5 (.int .i64 o.fl) b13;obtain ⟨mO,mP⟩:=(HM.out.below HX.out.bel).cO;have mA:=(HM.out.below HX.out.bel).cA;have a:=(HM.out.below HX.out.bel).a.cell f (.int .i64 v) b106))
 all_goals
  go_wp2_with fail;go_meet;first|exact ⟨_,y,rfl,rfl,rfl,HPL,Hd (Nb.after ((Below.refl W1 W1).drew.trans HA.out) [.slice y.oa y.o.length y.oc,.slice y.ta y.t.length y.tc] 83),Hd (dy_after ((Below.refl W1 W1).drew.trans HA.out) HDA.out _)⟩|exact ⟨_,y,rfl,rfl,rfl,HPL,Hd (Nb.before (T:=83) (zs:=[σ,σ]) ((Below.refl (W1.alloc _).heap.size (W1.alloc _)).drew.trans HB.out) [.slice y.oa y.o.length y.oc,.slice y.ta y.t.length y.tc] rfl),Hd (dy_before HM1.out HDA.out [.slice y.oa y.o.length y.oc,.slice y.ta y.t.length y.tc])⟩):p:=h
theorem km50 {p : Prop} (h:p:=by
 have hnI:(s.fs.length:Int)≤1000:=b10;unfold stepV;obtain ⟨cs,hcs⟩:∃cs,cs=stepC l.M p o x:=⟨_,rfl⟩
 have HCS:=Hd hcs;rw [←hcs] at HX ⊢;clear hcs h;generalize openedR s p o=PR at *;go_enter Tryz.func65,Tryz.ntmps65;go_upto_region 1 with (fail)
 generalize World.alloc _ (Obj.cells #[I,I,J,.nilFunc] 114)=W0 at *;go_cut [21] (fun v wx=>v=.bool (decide (o.fi<0∨(s.fs.length:Int)≤o.fi))∧Hid (Bx2 W wx W.heap.size (W.heap.size+1) cs [I,I,J,.nilFunc]))
 case first=>
  have t0:=HX.out.t.cell 0 (.pointer (some (l.M 0))) b13;have t4:=HX.out.t.cell 4 (.int .i64 o.fi) b13;have mF:=(HM.out.below HX.out.bel).cF;by_cases h1:o.fi<0
  ·go_wp2_with fail;go_quiet (fail);go_wp2_with fail;go_meet;exact ⟨by simp [h1],Hd (HX.out.below (below_drewN Br nq))⟩
  ·by_cases h2:(s.fs.length:Int)≤o.fi
   ·exact cl94
   ·exact cl94
 case rest=>
 clear HX;obtain ⟨rfl,HX⟩:=hcut;go_upto_if 21 with (fail)
 by_cases hc:o.fi<0∨(s.fs.length:Int)≤o.fi
 ·have hd:decide (o.fi<0∨(s.fs.length:Int)≤o.fi)=true:=decide_eq_true hc;rw [hd];obtain ⟨PR1,PR2⟩:=PR;obtain ⟨rfl,rfl⟩:PR1=badR 2∧PR2=s:=by have:=HE.out.trans (if_pos hc);exact ⟨congrArg Prod.fst this,congrArg Prod.snd this⟩
  clear HE hc hd HC;go_wp2_with fail;refine (bad_any 2 _).mono ?_;exact cm4
 ·have hd:decide (o.fi<0∨(s.fs.length:Int)≤o.fi)=false:=decide_eq_false hc;rw [hd];have HE2:=Hd (HE.out.trans (if_neg hc));clear HE;obtain ⟨f,hf⟩:∃f:Nat,o.fi=(f:Int):=⟨o.fi.toNat,by omega⟩
  have HF:=Hd hf;rw [hf,Int.toNat_natCast] at HE2;have hfn:f<s.fs.length:=b10;have hfI:(f:Int)<(s.fs.length:Int):=b10;rw [hf] at HC;clear hc hd hf;generalize hv:s.fa.getD f 0=v at *;have HVV0:=Hd hv;clear hv;replace HC:=Hd (HC.out v);generalize Des.openE s.d p (f:Int) o.fl v=er at *;generalize Des.openF s.d p (f:Int) o.fl v=sv at *;generalize Des.openD s.d p (f:Int) o.fl v=DD at *;go_upto_region 3 with (fail)
  obtain ⟨W1,hW1⟩:∃W1,W1=wc:=⟨_,rfl⟩
  subst hW1;exact cm86):p:=h
theorem km86 {p : Prop} (h:p:=by
 obtain ⟨PR1,PR2⟩:=PR;by_cases hz:er=0
 ·subst hz;obtain ⟨rfl,rfl⟩:PR1=_∧PR2=_:=by have:=HE2.out.trans (if_pos rfl);exact ⟨congrArg Prod.fst this,congrArg Prod.snd this⟩
  clear HE2;obtain ⟨_,⟨r0,r1,r2,r3⟩,rh⟩:=At.four HX.out.r;obtain ⟨rc0,rc1,rc2,rc3⟩:=(At.four HX.out.r).1;go_wp2_with fail;generalize hwB:(((wc.setCell (W 1 0) I).setCell (W 1 1) sv).setCell (W 1 2) J).setCell (W 1 3) (.func (.func 88) #[] #[.pointer (some (K 0)),.pointer (some (W 0 0))])=w9 at *;have HP:Bx2 W w9 W.heap.size (W.heap.size+1) cs [I,sv,J,.func (.func 88) #[] #[.pointer (some (K 0)),.pointer (some (W 0 0))]]:=by rw [←hwB];exact HX.out.putR [I,sv,J,.func (.func 88) #[] #[.pointer (some (K 0)),.pointer (some (W 0 0))]] rfl
  skip
  have HKK:Hid (At w9 K (d2 y)):=Hd (by rw [←hwB];exact HN.out.at'.apart b98 0 [I,sv,J,.func (.func 88) #[] #[.pointer (some (K 0)),.pointer (some (W 0 0))]]);have HVV:Hid (Vi w9 (vx l) y):=Hd (by rw [←hwB];exact dn_vi HM.out b10 HR1.out HV.out [I,sv,J,.func (.func 88) #[] #[.pointer (some (K 0)),.pointer (some (W 0 0))]]);clear r0 r1 r2 r3 rc0 rc1 rc2 rc3;obtain ⟨⟨q0,q1,q2,q3⟩,_,_⟩:=At.four HP.r;exact bodyPost_ret (v:=.agg #[I,sv,J,.func (.func 88) #[] #[.pointer (some (K 0)),.pointer (some (W 0 0))]]) b105 rfl ⟨_,rfl,HP.bel,Or.inr ⟨88,_,rfl,fun _ _=>rfl,fun W2 hf2=>by rw [←HPL.out];exact clo88 B l s p o x y K W.heap.size W2 (hf2.mm HP.bel) b33 (hf2.at HKK.out b23) (hf2.vi HVV.out (fun b hb=>(HV.out.blk b hb).imp id b52))⟩⟩
 ·obtain ⟨rfl,rfl⟩:PR1=_∧PR2=_:=by have:=HE2.out.trans (if_neg hz);exact ⟨congrArg Prod.fst this,congrArg Prod.snd this⟩
  have hz':(er==0)=false:=by simpa using hz
  clear HE2;go_wp2_with fail;refine (bad_any er _).mono ?_;exact cm115):p:=h
theorem km93 {p : Prop} (h:p:=by
 exact cm50):p:=h
theorem km115 {p : Prop} (h:p:=by
 go_wp2_with fail;generalize hwB:(((w5.setCell (W 1 0) er).setCell (W 1 1) I).setCell (W 1 2) J).setCell (W 1 3) (.nilFunc)=w9 at *;have HP:Bx2 W w9 W.heap.size (W.heap.size+1) cs [er,I,J,.nilFunc]:=by rw [←hwB];exact HX.out.putR [er,I,J,.nilFunc] rfl
 skip
 clear r0 r1 r2 r3 rc0 rc1 rc2 rc3;obtain ⟨⟨q0,q1,q2,q3⟩,_,_⟩:=At.four HP.r;exact bodyPost_ret (v:=.agg #[er,I,J,.nilFunc]) b105 rfl ⟨_,rfl,HP.bel,Or.inl ⟨rfl,rfl⟩⟩):p:=h
theorem km127 {p : Prop} (h:p:=by
 exact bodyPost_ret (v:=.agg #[(2:Int),I,J,.nilFunc]) b105 rfl ⟨_,rfl,HP.bel,Or.inl ⟨rfl,rfl⟩⟩):p:=h
end Arz0
open Arz0 in
set_option maxHeartbeats 8000000 in
theorem opened_any (B:Nat) (l:Ly) (s:St) (p:Int) (o:Opr) (x:Ev) (W:World) (h:Mm B W l s) (hr:Des.Rt s.d) (hn:s.fs.length≤1000) (hfa:s.fa.length=s.fs.length):
 Calls Tryz.prog 65 #[stepV l.M p o x] W (PlanP B W l s (openedR s p o).1 (openedR s p o).2):=by
 have HC:Hid (∀c W',Below W W W'→Calls Tryz.prog 87 #[.agg #[.slice l.x.oa l.x.o.length l.x.oc,.slice l.x.ta l.x.t.length l.x.tc],p,o.fi,o.fl,.int .i64 c] W' (fun e w'=>∃y:Dv,e=.returned (.tuple #[.agg #[.slice y.oa y.o.length y.oc,.slice y.ta y.t.length y.tc],(Des.openF s.d p o.fi o.fl c),(Des.openE s.d p o.fi o.fl c)])∧y.pl=Des.openD s.d p o.fi o.fl c∧DAns W' l.x w' y∧Below W' W' w')):=Hd fun c W' hb=>by
  have h1:=Des.open_v l.x p o.fi o.fl c W' (h.below hb).im.di.di (h.dz hr);rw [h.im.dp] at h1;exact h1
 have HM:=Hd h;exact cm93
end Go.Proofs.YtimhaidiclbnhaaGreat.Ver
namespace Go.Proofs.YtimhaidiclbnhaaGreat.Con
def bat (d:ByteArray) (i:Nat):UInt8:=d.data.toList.getD i 0
theorem size_list (d:ByteArray):d.data.toList.length=d.size:=Array.length_toList
theorem bat_out {d:ByteArray} {i:Nat} (h:d.size≤i):bat d i=0:=by
 unfold bat;rw [List.getD,List.getElem?_eq_none (by rw [size_list];exact h)];rfl
theorem bat_ext {a b:ByteArray} (hs:a.size=b.size) (h:∀i,i<a.size→bat a i=bat b i):a=b:=by
 have hl:a.data.toList=b.data.toList:=by
  apply List.ext_getElem
  ·rw [size_list,size_list,hs]
  ·intro i h1 h2;have:=h i (by rw [←size_list];exact h1);simpa [bat,List.getD,List.getElem?_eq_getElem h1,List.getElem?_eq_getElem h2] using this
 have hd:a.data=b.data:=by rw [←Array.toList_inj];exact hl
 exact ByteArray.ext hd
theorem bat_append (a b:ByteArray) (i:Nat):bat (a++b) i=if i<a.size then bat a i else bat b (i-a.size):=by
 unfold bat;rw [ByteArray.data_append,Array.toList_append,List.getD,List.getD,List.getD];by_cases h:i<a.size
 ·rw [if_pos h,List.getElem?_append_left (by rw [size_list];exact h)]
 ·rw [if_neg h,List.getElem?_append_right (by rw [size_list];omega),size_list]
theorem bat_extract (a:ByteArray) (x y i:Nat):bat (a.extract x y) i=if x+i<y then bat a (x+i) else 0:=by
 unfold bat;rw [ByteArray.data_extract,Array.toList_extract,List.getD,List.getD,List.extract_eq_take_drop];by_cases h:x+i<y
 ·rw [if_pos h,List.getElem?_take_of_lt b10,List.getElem?_drop]
 ·rw [if_neg h,List.getElem?_eq_none (by rw [List.length_take];omega)];rfl
theorem bat_zeros (n i:Nat):bat (zeros n) i=0:=by
 by_cases h:i<n
 ·simp [bat,zeros,List.getD,h]
 ·exact bat_out (by rw [size_zeros];omega)
theorem size_extract (a:ByteArray) (x y:Nat):(a.extract x y).size=min y a.size-x:=ByteArray.size_extract
theorem bat_sized (s:ByteArray) (n i:Nat):bat (sizedS s n) i=if i<n then bat s i else 0:=by
 unfold sizedS;by_cases h:n≤s.size
 ·rw [if_pos h,bat_extract,Nat.zero_add]
 ·rw [if_neg h,bat_append,bat_zeros];by_cases h1:i<s.size
  ·rw [if_pos h1,if_pos b10]
  ·rw [if_neg h1,bat_out b10];simp
theorem putS_size (s:ByteArray) (off:Nat) (b:ByteArray):(putS s off b).size=max s.size (off+b.size):=by
 unfold putS;rw [ByteArray.size_append,ByteArray.size_append,size_extract,size_extract,sizedS_size];omega
theorem bat_put (s:ByteArray) (off:Nat) (b:ByteArray) (i:Nat):bat (putS s off b) i=if off≤i∧i<off+b.size then bat b (i-off) else bat s i:=by
 by_cases hM:i<max s.size (off+b.size)
 ·have e1:((sizedS s (max s.size (off+b.size))).extract 0 off).size=off:=by rw [size_extract,sizedS_size];omega
  unfold putS;rw [bat_append,bat_append,ByteArray.size_append,e1,bat_extract,bat_extract,bat_sized,bat_sized];by_cases h1:i<off
  ·rw [if_pos b10,if_pos h1,if_pos b10,if_pos b10,if_neg b10,Nat.zero_add]
  ·by_cases h2:i<off+b.size
   ·rw [if_pos h2,if_neg h1,if_pos ⟨by omega,h2⟩]
   ·rw [if_neg h2,if_pos b10,if_pos b10,if_neg b10,show off+b.size+(i-(off+b.size))=i from by omega]
 ·rw [bat_out (by rw [putS_size];omega),if_neg b10,bat_out b10]
set_option maxHeartbeats 1000000 in
theorem zerosR_any (n:Nat) (w:World) (hn:n≤100000):Calls Tryz.prog 84 #[n] w (RetW (.string (zeros n)) w):=by
 have hmk:=make_bytes (n:Int) b10 b10;rw [show ((n:Int)).toNat=n from by omega] at hmk;have hcv:=conv_zeros n w;go_enter Tryz.func84,Tryz.ntmps84;go_wp2_with fail;go_ret;exact RetW.mk rfl (Br.alloc Nr _)
set_option maxHeartbeats 2000000 in
theorem truncR_any (s:ByteArray) (n:Int) (w:World) (hs:s.size≤maxLen):
 Calls Tryz.prog 59 #[.string s,n] w (RetW (.tuple #[.string (truncV s n).1,(truncV s n).2]) w):=by
 unfold maxLen at hs;by_cases hl:longB s=true
 ·have HR:Hid (truncV s n=(s,1)):=by unfold Hid truncV;rw [if_pos hl]
  have h1:(128:Int)<(s.size:Int):=by rw [longB_iff] at hl;omega
  clear hl;go_enter Tryz.func59,Tryz.ntmps59;go_wp2_with fail;go_ret2;rw [HR.out];exact ⟨rfl,Below.refl _ _⟩
 ·have h1:(s.size:Int)≤128:=by rw [longB_iff] at hl;omega
  by_cases hb:badB n=true
  ·have HR:Hid (truncV s n=(s,2)):=by unfold Hid truncV;rw [if_neg hl,if_pos hb]
   have HB:Hid (n<0∨128<n):=badB_iff.1 hb;clear hl hb;go_enter Tryz.func59,Tryz.ntmps59;exact cl60
  ·have hof:¬(n<0∨128<n):=by rw [←badB_iff];exact hb
   obtain ⟨m,rfl⟩:=Int.eq_ofNat_of_zero_le (show 0≤n by omega);have ho:(m:Int)≤128:=b10;have e1:((m:Int)).toNat=m:=b10;have hr:truncV s (m:Int)=(sizedS s m,0):=by unfold truncV;rw [if_neg hl,if_neg hb,e1]
   by_cases hge:m≤s.size
   ·have HR:Hid (truncV s (m:Int)=(s.extract 0 m,0)):=by unfold Hid;rw [hr];unfold sizedS;rw [if_pos hge]
    have h2:(m:Int)≤(s.size:Int):=b10;clear hl hb hof hr e1;go_enter Tryz.func59,Tryz.ntmps59;go_wp2_with fail;go_ret2;rw [HR.out];exact ⟨rfl,Below.refl _ _⟩
   ·have HR:Hid (truncV s (m:Int)=(s++zeros (m-s.size),0)):=by unfold Hid;rw [hr];unfold sizedS;rw [if_neg hge]
    have h2:(s.size:Int)<(m:Int):=b10;have hz:=fun w=>zerosR_any (m-s.size) w b10;rw [show ((m-s.size:Nat):Int)=(m:Int)-(s.size:Int) from by omega] at hz;have hzs:=size_zeros (m-s.size);generalize zeros (m-s.size)=z at *;have hlen:s.size+z.size≤9223372036854775807:=b10;have HZ:=Hd hz;clear hl hb hof hr e1 hz hzs;go_enter Tryz.func59,Tryz.ntmps59;go_wp2_with (go_at_call 84;refine (HZ.out _).mono ?_;rintro e w' ⟨rfl,hbw⟩)
    go_ret2;rw [HR.out];exact ⟨rfl,hbw⟩
theorem write_ref (s:ByteArray) (o:Nat) (b:ByteArray) (s1:ByteArray) (h1:s1=if s.size<o then s++zeros (o-s.size) else s):
 (o+b.size<s1.size→s1.extract 0 o++b++s1.extract (s1.extract 0 o++b).size s1.size=putS s o b)∧(s1.size≤o+b.size→s1.extract 0 o++b=putS s o b)∧(s1.extract 0 o++b).size=o+b.size∧o≤s1.size∧s1.size=max s.size o:=by
 have hsz:s1.size=max s.size o:=by
  subst h1;split
  ·rw [ByteArray.size_append,size_zeros];omega
  ·omega
 have hbt:∀i,bat s1 i=bat s i:=by
  intro i;subst h1;split
  ·rw [bat_append,bat_zeros];by_cases h:i<s.size
   ·rw [if_pos h]
   ·rw [if_neg h,bat_out b10]
  ·rfl
 have ha:(s1.extract 0 o).size=o:=by rw [size_extract];omega
 have hab:(s1.extract 0 o++b).size=o+b.size:=by rw [ByteArray.size_append,ha]
 refine ⟨fun h=>?_,fun h=>?_,hab,by omega,hsz⟩
 ·apply bat_ext
  ·rw [putS_size,ByteArray.size_append,hab,size_extract];omega
  ·intro i _;rw [bat_put,bat_append,hab,bat_append,ha,bat_extract,bat_extract,Nat.zero_add,hbt];by_cases c1:i<o
   ·rw [if_pos b10,if_pos c1,if_pos c1,if_neg b10]
   ·by_cases c2:i<o+b.size
    ·rw [if_pos c2,if_neg c1,if_pos ⟨by omega,c2⟩]
    ·have e:(if o≤i∧i<o+b.size then bat b (i-o) else bat s i)=bat s i:=if_neg b10;rw [e,if_neg c2,show o+b.size+(i-(o+b.size))=i from by omega];by_cases c3:i<s1.size
     ·rw [if_pos c3,hbt]
     ·rw [if_neg c3,bat_out b10]
 ·apply bat_ext
  ·rw [putS_size,hab];omega
  ·intro i hi;rw [hab] at hi;rw [bat_put,bat_append,ha,bat_extract,Nat.zero_add,hbt];by_cases c1:i<o
   ·rw [if_pos c1,if_pos c1,if_neg b10]
   ·rw [if_neg c1,if_pos ⟨by omega,by omega⟩]
set_option maxHeartbeats 4000000 in
theorem writeR_any (s:ByteArray) (off:Int) (b:ByteArray) (w:World) (hs:s.size≤maxLen) (hbm:b.size≤maxLen):
 Calls Tryz.prog 54 #[.string s,off,.string b] w (RetW (.tuple #[.string (writeV s off b).1,(writeV s off b).2]) w):=by
 unfold maxLen at hs hbm;by_cases hl:longB s=true
 ·have HR:Hid (writeV s off b=(s,1)):=by unfold Hid writeV;rw [if_pos hl]
  have h1:(128:Int)<(s.size:Int):=by rw [longB_iff] at hl;omega
  clear hl;go_enter Tryz.func54,Tryz.ntmps54;go_wp2_with fail;go_ret2;rw [HR.out];exact ⟨rfl,Below.refl _ _⟩
 ·have h1:(s.size:Int)≤128:=by rw [longB_iff] at hl;omega
  by_cases hb:badB off=true∨128-off<(b.size:Int)
  ·have HR:Hid (writeV s off b=(s,2)):=by unfold Hid writeV;rw [if_neg hl,if_pos hb]
   have HB:Hid ((off<0∨128<off)∨128-off<(b.size:Int)):=by rw [badB_iff] at hb;exact hb
   clear hl hb;go_enter Tryz.func54,Tryz.ntmps54;exact cl60
  ·have hof:¬((off<0∨128<off)∨128-off<(b.size:Int)):=by rw [←badB_iff];exact hb
   obtain ⟨o,rfl⟩:=Int.eq_ofNat_of_zero_le (show 0≤off by omega);have ho:(o:Int)≤128:=b10;have hob:(b.size:Int)≤128-(o:Int):=b10;have e1:((o:Int)).toNat=o:=b10;by_cases hz:b.size=0
   ·have HR:Hid (writeV s (o:Int) b=(s,0)):=by unfold Hid writeV;rw [if_neg hl,if_neg hb,if_pos hz]
    have hbe:b=⟨#[]⟩:=ByteArray.ext (Array.eq_empty_of_size_eq_zero hz);subst hbe;clear hl hb hof e1;go_enter Tryz.func54,Tryz.ntmps54;go_wp2_with fail;go_ret2;rw [HR.out];exact ⟨rfl,Below.refl _ _⟩
   ·have hr:writeV s (o:Int) b=(putS s o b,0):=by unfold writeV;rw [if_neg hl,if_neg hb,if_neg hz,e1]
    have hbp:(0:Int)<(b.size:Int):=b10;have hb0:((b.size:Int)==0)=false:=by rw [beq_eq_false_iff_ne];omega
    by_cases hlt:s.size<o
    ·have h2:(s.size:Int)<(o:Int):=b10;obtain ⟨_,k2,k3,k4,k5⟩:=write_ref s o b (s++zeros (o-s.size)) (by rw [if_pos hlt]);have HR:Hid (writeV s (o:Int) b=((s++zeros (o-s.size)).extract 0 o++b,0)):=by unfold Hid;rw [hr,k2 (by rw [k5];omega)]
     have hzz:=fun w=>zerosR_any (o-s.size) w b10;rw [show ((o-s.size:Nat):Int)=(o:Int)-(s.size:Int) from by omega] at hzz;have hzs:=size_zeros (o-s.size);generalize zeros (o-s.size)=z at *;have q1:s.size+z.size≤9223372036854775807:=b10;have q2:s.size+z.size=o:=b10;have q3:(s++z).size=o:=by rw [ByteArray.size_append];exact q2
     generalize hS1:s++z=s1 at *;have HS1:=Hd hS1;have q4:(s1.extract 0 o).size+b.size≤9223372036854775807:=by rw [size_extract];omega
     have q5:(o:Int)≤(s1.size:Int):=b10;have HZ:=Hd hzz;have HQ:=Hd (And.intro k3 q3);clear hl hb hof hr e1 hzz hzs k2 k3 k4 k5 hS1 q2 q3;go_enter Tryz.func54,Tryz.ntmps54;go_wp2_with (go_at_call 84;refine (HZ.out _).mono ?_;rintro e w' ⟨rfl,hbw⟩;have hsub:=HS1.out)
     all_goals
      first
      |(exfalso;have:=HQ.out.2;omega)
      | (go_ret2
         rw [HR.out];exact ⟨rfl,hbw⟩)
    ·have h2:(o:Int)≤(s.size:Int):=b10;obtain ⟨k1,k2,k3,k4,k5⟩:=write_ref s o b s (by rw [if_neg hlt]);have q0:min o s.size=o:=b10;have q4:(s.extract 0 o).size+b.size≤9223372036854775807:=by rw [size_extract];omega
     by_cases hgt:o+b.size<s.size
     ·have HR:Hid (writeV s (o:Int) b=(s.extract 0 o++b++s.extract (o+b.size) s.size,0)):=by
       unfold Hid;rw [hr,←k1 hgt,k3]
      have h3:(o:Int)+(b.size:Int)<(s.size:Int):=b10;clear hl hb hof hr e1 k1 k2 k3 k4 k5;go_enter Tryz.func54,Tryz.ntmps54;go_wp2_with fail
      all_goals
       first
       |(exfalso;omega)
       | (go_ret2
          rw [HR.out];exact ⟨by first|rfl|(rw [q0];rfl),Below.refl _ _⟩)
     ·have HR:Hid (writeV s (o:Int) b=(s.extract 0 o++b,0)):=by unfold Hid;rw [hr,k2 b10]
      have h3:(s.size:Int)≤(o:Int)+(b.size:Int):=b10;clear hl hb hof hr e1 k1 k2 k3 k4 k5;go_enter Tryz.func54,Tryz.ntmps54;go_wp2_with fail
      all_goals
       first
       |(exfalso;omega)
       | (go_ret2
          rw [HR.out];exact ⟨rfl,Below.refl _ _⟩)
end Go.Proofs.YtimhaidiclbnhaaGreat.Con
