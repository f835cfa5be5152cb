import Derived.Test.YtimhaidiclbnhaaGreatP21
import Derived.Test.YtimhaidiclbnhaaGreatP22
set_option linter.unusedSimpArgs false
set_option linter.unusedVariables false
set_option maxRecDepth 100000
open Go.ChangeShapes Go.WideShapes Go.ChangeAt Go.RowKit
namespace Go.Proofs.YtimhaidiclbnhaaGreat.Ver
open Des (Dv De Dn DIn DBlk DAns Vi At RowOf ints DSz)
open Ara (Ar ARow)
open Con (StrRow)
theorem size122:(Tryz.prog.info? 122).map (·.size)=some 20:=by kernel_rfl
theorem Vk.at {V:List Nat} {W W':World} (h:Vk V W W') {b:Nat} {cs:List Value} (ha:At W b cs) (hb:b∉V):At W' b cs:=At.keepB ha h.size (h.block b hb ha.hi)
set_option maxHeartbeats 4000000 in
theorem clo93 (B:Nat) (l:Ly) (s:St) (p:Int) (o:Opr) (x:Ev) (n:Int) (D:Dn) (T N K:Nat) (W:World) (h:Mm B W l s) (hr:Des.Rt s.d) (hT:At W T (stepC l.M p o x)) (hN:At W N [n]) (hK:At W K (dnL D)):
 Calls Tryz.prog 93 #[.pointer (some (T 0)),.pointer (some (N 0)),.pointer (some (K 0))] W fun e w3=>∃x' ar' hs',e=.returned (.tuple #[])∧Mm B w3 {l with x:=x',ar:=ar',hs:=hs'} {s with d:=Des.updD s.d n D.f D.cu}∧Vk (vs l) W w3:=by
 have HU:=Hd (update_any B l s p o x n D W h hr);obtain ⟨cs,hcs⟩:∃cs,cs=stepC l.M p o x:=⟨_,rfl⟩
 have HCS:=Hd hcs;unfold stepV at HU;rw [←hcs] at hT HU;have HT:=Hd hT;have n0:=hN.cell 0 _ rfl;obtain ⟨⟨d0,d1,d2,d3,d4⟩,_,_⟩:=Des.At.five hK;clear h hT hN hK hcs;go_enter Tryz.func93,Tryz.ntmps93;exact cl48
set_option maxHeartbeats 4000000 in
theorem clo99 (B:Nat) (l:Ly) (s:St) (p:Int) (o:Opr) (x:Ev) (n:Int) (D:Dn) (T N K:Nat) (W:World) (h:Mm B W l s) (hr:Des.Rt s.d) (hT:At W T (stepC l.M p o x)) (hN:At W N [n]) (hK:At W K (dnL D)):
 Calls Tryz.prog 99 #[.pointer (some (T 0)),.pointer (some (N 0)),.pointer (some (K 0))] W fun e w3=>∃x' ar' hs',e=.returned (.tuple #[])∧Mm B w3 {l with x:=x',ar:=ar',hs:=hs'} {s with d:=Des.updD s.d n D.f D.cu}∧Vk (vs l) W w3:=by
 have HU:=Hd (update_any B l s p o x n D W h hr);obtain ⟨cs,hcs⟩:∃cs,cs=stepC l.M p o x:=⟨_,rfl⟩
 have HCS:=Hd hcs;unfold stepV at HU;rw [←hcs] at hT HU;have HT:=Hd hT;have n0:=hN.cell 0 _ rfl;obtain ⟨⟨d0,d1,d2,d3,d4⟩,_,_⟩:=Des.At.five hK;clear h hT hN hK hcs;go_enter Tryz.func99,Tryz.ntmps99;exact cl48
set_option maxHeartbeats 4000000 in
theorem clo101 (B:Nat) (l:Ly) (s:St) (p:Int) (o:Opr) (x:Ev) (D:Dn) (f:Nat) (d:ByteArray) (T K O:Nat) (W:World) (h:Mm B W l s) (hf:f<s.fs.length) (hfh:f<s.h.length) (hn:s.fs.length≤1000) (hl:(s.h.getD f ([],0)).1.length≤10000) (hD:D.fi=(f:Int)) (hT:At W T (stepC l.M p o x)) (hK:At W K (dnL D)) (hO:At W O [.string d]):
 Calls Tryz.prog 101 #[.pointer (some (T 0)),.pointer (some (K 0)),.pointer (some (O 0))] W fun e w3=>∃x' ar' hs',e=.returned (.tuple #[])∧Mm B w3 {l with x:=x',ar:=ar',hs:=hs'} (chS s f d)∧Vk (vs l) W w3:=by
 have HU:=Hd (change_any B l s p o x f d W h hf hfh hn hl);obtain ⟨cs,hcs⟩:∃cs,cs=stepC l.M p o x:=⟨_,rfl⟩
 have HCS:=Hd hcs;unfold stepV at HU;rw [←hcs] at hT HU;have HT:=Hd hT;have o0:=hO.cell 0 _ rfl;obtain ⟨⟨d0,d1,d2,d3,d4⟩,_,_⟩:=Des.At.five hK;rw [hD] at d0;clear h hT hO hK hcs hD hf hfh hn hl;generalize chS s f d=s9 at *;go_enter Tryz.func101,Tryz.ntmps101;exact cl34
set_option maxHeartbeats 4000000 in
theorem clo103 (B:Nat) (l:Ly) (s:St) (p:Int) (o:Opr) (x:Ev) (D:Dn) (f:Nat) (d:ByteArray) (T K O:Nat) (W:World) (h:Mm B W l s) (hf:f<s.fs.length) (hfh:f<s.h.length) (hn:s.fs.length≤1000) (hl:(s.h.getD f ([],0)).1.length≤10000) (hD:D.fi=(f:Int)) (hT:At W T (stepC l.M p o x)) (hK:At W K (dnL D)) (hO:At W O [.string d]):
 Calls Tryz.prog 103 #[.pointer (some (T 0)),.pointer (some (K 0)),.pointer (some (O 0))] W fun e w3=>∃x' ar' hs',e=.returned (.tuple #[])∧Mm B w3 {l with x:=x',ar:=ar',hs:=hs'} (chS s f d)∧Vk (vs l) W w3:=by
 have HU:=Hd (change_any B l s p o x f d W h hf hfh hn hl);obtain ⟨cs,hcs⟩:∃cs,cs=stepC l.M p o x:=⟨_,rfl⟩
 have HCS:=Hd hcs;unfold stepV at HU;rw [←hcs] at hT HU;have HT:=Hd hT;have o0:=hO.cell 0 _ rfl;obtain ⟨⟨d0,d1,d2,d3,d4⟩,_,_⟩:=Des.At.five hK;rw [hD] at d0;clear h hT hO hK hcs hD hf hfh hn hl;generalize chS s f d=s9 at *;go_enter Tryz.func103,Tryz.ntmps103;exact cl34
set_option maxHeartbeats 4000000 in
theorem clo112 (B:Nat) (l:Ly) (s:St) (p:Int) (o:Opr) (x:Ev) (D:Ar) (f:Nat) (d:ByteArray) (T K O:Nat) (W:World) (h:Mm B W l s) (hf:f<s.fs.length) (hfh:f<s.h.length) (hn:s.fs.length≤1000) (hl:(s.h.getD f ([],0)).1.length≤10000) (hD:D.fi=(f:Int)) (hT:At W T (stepC l.M p o x)) (hK:At W K (Ara.Ar.cells D)) (hO:At W O [.string d]):
 Calls Tryz.prog 112 #[.pointer (some (T 0)),.pointer (some (K 0)),.pointer (some (O 0))] W fun e w3=>∃x' ar' hs',e=.returned (.tuple #[])∧Mm B w3 {l with x:=x',ar:=ar',hs:=hs'} (chS s f d)∧Vk (vs l) W w3:=by
 have HU:=Hd (change_any B l s p o x f d W h hf hfh hn hl);obtain ⟨cs,hcs⟩:∃cs,cs=stepC l.M p o x:=⟨_,rfl⟩
 have HCS:=Hd hcs;unfold stepV at HU;rw [←hcs] at hT HU;have HT:=Hd hT;have o0:=hO.cell 0 _ rfl;have d2:=hK.cell 2 (.int .i64 D.fi) rfl;rw [hD] at d2;clear h hT hO hK hcs hD hf hfh hn hl;generalize chS s f d=s9 at *;go_enter Tryz.func112,Tryz.ntmps112;exact cl34
set_option maxHeartbeats 8000000 in
theorem clo96 (B:Nat) (l:Ly) (s:St) (p:Int) (o:Opr) (x:Ev) (n:Int) (D:Dn) (f:Nat) (d:ByteArray) (T N K O:Nat) (W:World) (h:Mm B W l s) (hr:Des.Rt s.d) (hf:f<s.fs.length) (hfh:f<s.h.length) (hn:s.fs.length≤1000) (hl:(s.h.getD f ([],0)).1.length≤10000) (hD:D.fi=(f:Int)) (hT:At W T (stepC l.M p o x)) (hN:At W N [n]) (hK:At W K (dnL D)) (hO:At W O [.string d]) (vT:T∉vs l) (vK:K∉vs l) (vO:O∉vs l):
 Calls Tryz.prog 96 #[.pointer (some (T 0)),.pointer (some (N 0)),.pointer (some (K 0)),.pointer (some (O 0))] W fun e w3=>∃x' ar' hs',e=.returned (.tuple #[])∧Mm B w3 {l with x:=x',ar:=ar',hs:=hs'} (chS {s with d:=Des.updD s.d n D.f D.cu} f d)∧Vk (vs l) W w3:=by
 have HU:=Hd (update_any B l s p o x n D W h hr);have HC:Hid (∀(y:Dv) W',Mm B W' {l with x:=y} {s with d:=y.pl}→Calls Tryz.prog 97 #[stepV l.M p o x,f,.string d] W' fun e w'=>∃hs:List Sl,e=.returned (.tuple #[])∧Mm B w' {l with x:=y,hs:=hs} (chS {s with d:=y.pl} f d)∧Vk (vs l) W' w'):=Hd fun y W' hm=>change_any B {l with x:=y} {s with d:=y.pl} p o x f d W' hm hf hfh hn hl;obtain ⟨cs,hcs⟩:∃cs,cs=stepC l.M p o x:=⟨_,rfl⟩
 have HCS:=Hd hcs;unfold stepV at HU HC;rw [←hcs] at hT HU HC;have HT:=Hd hT;have HK:=Hd hK;have HO:=Hd hO;have n0:=hN.cell 0 _ rfl;obtain ⟨⟨d0,d1,d2,d3,d4⟩,_,_⟩:=Des.At.five hK;clear h hT hN hK hO hcs hf hfh hn hl;have HD:=Hd hD;clear hD;go_enter Tryz.func96,Tryz.ntmps96;go_wp2_with (with_reducible refine Des.hold_load 122 rfl ?_)
 refine Des.load_ato 0 HT.out.r Tryz.underlying122 rfl b28 rfl rfl rfl ?_;go_wp2_with fail;refine HU.out.mono ?_;rintro e w' ⟨y,rfl,hpl,hm,hv⟩;have HM:=Hd hm;have HV:=Hd hv;have HP:=Hd hpl;replace HT:=Hd (HV.out.at HT.out vT);replace HK:=Hd (HV.out.at HK.out vK);replace HO:=Hd (HV.out.at HO.out vO);clear hm hv hpl HU d0 d1 d2 d3 d4 n0;have o0:=HO.out.cell 0 _ rfl;have d0:w'.cell? (K 0)=some (f:U):=by rw [←HD.out];exact HK.out.cell 0 _ rfl
 go_wp2_with (with_reducible refine Des.hold_load 122 rfl ?_)
 refine Des.load_ato 0 HT.out.r Tryz.underlying122 rfl b28 rfl rfl rfl ?_;go_wp2_with fail;refine (HC.out y _ HM.out).mono ?_;rintro e w'' ⟨hs,rfl,hm2,hv2⟩;have HM2:=Hd hm2;have HV2:=Hd hv2;clear hm2 hv2 HC;go_wp2_with fail;go_end0;exact ⟨y,l.ar,hs,rfl,by rw [←HP.out];exact HM2.out,HV.out.trans HV2.out⟩
theorem two_new (w:World) (us:List Value) (ut:TypeId) (zs:List Value) (zt:TypeId):At ((w.alloc (.cells us.toArray ut)).alloc (.cells zs.toArray zt)) w.heap.size us∧At ((w.alloc (.cells us.toArray ut)).alloc (.cells zs.toArray zt)) (w.heap.size+1) zs∧Below w w ((w.alloc (.cells us.toArray ut)).alloc (.cells zs.toArray zt)):=
 ⟨(At.new w us ut).alloc _,(At.new (w.alloc (.cells us.toArray ut)) zs zt).cast b57,((Below.refl w w).alloc Nr _).alloc b37 _⟩
def seekR (s:St) (p:Int) (o:Opr):Res×St:=
 if lkE s p o.fd 0≠0 then (badR (lkE s p o.fd 0),s) else
 if Des.updE s.d (Des.numV s.d p o.fd) o.off (Des.lookV s.d p o.fd).cu≠0 then (badR (Des.updE s.d (Des.numV s.d p o.fd) o.off (Des.lookV s.d p o.fd).cu),s) else
 (⟨0,0,⟨#[]⟩⟩,{s with d:=Des.updD s.d (Des.numV s.d p o.fd) o.off (Des.lookV s.d p o.fd).cu})
namespace Adqq
theorem km1 {p : Prop} (h:p:=by
 exact bodyPost_ret (v:=.agg #[le,I,J,.nilFunc]) b107 rfl ⟨_,rfl,HP.bel,Or.inl ⟨rfl,rfl⟩⟩):p:=h
theorem km21 {p : Prop} (h:p:=by
 obtain ⟨⟨d0,d1,d2,d3,d4⟩,⟨f0,f1,f2,f3,f4⟩,fh⟩:=Des.At.five HK.out;have t6:=HX.out.t.cell 6 (.int .i64 o.off) b13;have HX2:Hid (Bx2 W (W1.setCell (K 2) o.off) W.heap.size (W.heap.size+1) cs [I,I,J,.nilFunc]):=Hd ⟨HX.out.bel.setCell (p:=(K 2)) b72 _,HX.out.t.setOther (x:=⟨K,2,none⟩) b73 _,HX.out.r.setOther (x:=⟨K,2,none⟩) b74 _,HX.out.lo,HX.out.tr⟩;have HK2:=Hd (HK.out.set 2 (.int .i64 o.off));have HN2:Hid (At (W1.setCell (K 2) o.off) N [nv]):=Hd (HN.out.setOther (x:=⟨K,2,none⟩) b75 _);go_upto_region 3 with (fail)
 generalize W1.setCell (K 2) o.off=W2 at *;replace HK2:Hid (At W2 K [D.fi,D.fl,o.off,D.cu,D.rf]):=HK2;replace HX:=HX2;clear HX2 HK HN d0 d1 d2 d3 d4 f0 f1 f2 f3 f4 fh t6;by_cases hz:le=0
 ·subst hz;have HE2:=Hd (HE.out.trans (if_neg b11));clear HE;have HE:=HE2;clear HE2;go_upto_region 4 with (fail)
  have HU:=Hd (HU0.out nv ⟨D.fi,D.fl,o.off,D.cu,D.rf⟩);clear HU0;replace HU:=HU
  skip
  generalize Des.updE s.d nv o.off D.cu=ue at *;go_cut [5] (fun v wx=>v=.int .i64 ue∧Hid (Below W2 W2 wx))
  case first=>
   replace HX:=Hd (HX.out.below Br.drew);replace HN2:=Hd (Des.At.drew HN2.out);replace HK2:=Hd (Des.At.drew HK2.out);have t0:=HX.out.t.cell 0 (.pointer (some (l.M 0))) b13;obtain ⟨mO,mP⟩:=(HM.out.below HX.out.bel).cO;have n0:=HN2.out.cell 0 _ rfl;obtain ⟨⟨d0,d1,d2,d3,d4⟩,_,_⟩:=Des.At.five HK2.out;go_region_held3 (fun w'=>w'.cell? (W 0 0)=some (.pointer (some (l.M 0)))∧w'.cell? (l.M 24)=some (.slice l.x.oa l.x.o.length l.x.oc)∧w'.cell? (l.M 25)=some (.slice l.x.ta l.x.t.length l.x.tc)∧w'.cell? (N 0)=some (nv:U)∧w'.cell? (K 0)=some (D.fi:U)∧w'.cell? (K 1)=some (D.fl:U)∧w'.cell? (K 2)=some (o.off:U)∧w'.cell? (K 3)=some (D.cu:U)∧w'.cell? (K 4)=some (D.rf:U)) (go_keep) (first|(go_at_call 98;refine (HU.out _ HX.out.bel).mono ?_;rintro e w3 ⟨y,rfl,hb⟩;have HBB:=Hd hb;replace HX:=Hd (HX.out.below hb);replace HN2:=Hd (HN2.out.below hb HN2.out.hi);replace HK2:=Hd (HK2.out.below hb HK2.out.hi);clear hb t0 mO mP n0 d0 d1 d2 d3 d4;have t0:=HX.out.t.cell 0 (.pointer (some (l.M 0))) b13;obtain ⟨mO,mP⟩:=(HM.out.below HX.out.bel).cO;have n0:=HN2.out.cell 0 _ rfl;obtain ⟨⟨d0,d1,d2,d3,d4⟩,_,_⟩:=Des.At.five HK2.out))
   all_goals
    go_wp2_with fail;go_meet;exact ⟨rfl,Hd ((Below.refl W2 W2).drew.trans HBB.out)⟩
  case rest=>
  obtain ⟨rfl,HBB⟩:=hcut;replace HX:=Hd (HX.out.below HBB.out);replace HN2:=Hd (HN2.out.below HBB.out HN2.out.hi);replace HK2:=Hd (HK2.out.below HBB.out HK2.out.hi);clear HBB HU;by_cases hu:ue=0
  ·subst hu;exact cm137
  ·have hu':(ue==0)=false:=by simpa using hu
   exact cm116
 ·exact cm53):p:=h
theorem km49 {p : Prop} (h:p:=by
 generalize seekR s p o=PR at *;generalize lkE s p o.fd 0=le at *;generalize Des.numV s.d p o.fd=nv at *;generalize Des.lookV s.d p o.fd=D at *;go_enter Tryz.func69,Tryz.ntmps69;exact cm21):p:=h
theorem km4 {p : Prop} (h:p:=by
 generalize hwB:(((w5.setCell (W 1 0) ue).setCell (W 1 1) I).setCell (W 1 2) J).setCell (W 1 3) (.nilFunc)=w9 at *;have HP:Bx2 W w9 W.heap.size (W.heap.size+1) cs [ue,I,J,.nilFunc]:=by rw [←hwB];exact HX.out.putR [ue,I,J,.nilFunc] rfl
 skip
 clear r0 r1 r2 r3 rc0 rc1 rc2 rc3;obtain ⟨⟨q0,q1,q2,q3⟩,_,_⟩:=At.four HP.r;exact bodyPost_ret (v:=.agg #[ue,I,J,.nilFunc]) b107 rfl ⟨_,rfl,HP.bel,Or.inl ⟨rfl,rfl⟩⟩):p:=h
theorem km89 {p : Prop} (h:p:=by
 have HU0:Hid (∀(n:Int) (D:Dn) W',Below W W W'→Calls Tryz.prog 98 #[.agg #[.slice l.x.oa l.x.o.length l.x.oc,.slice l.x.ta l.x.t.length l.x.tc],n,.agg #[D.fi,D.fl,D.f,D.cu,D.rf]] W' fun e w'=>∃y:Dv,e=.returned (.tuple #[.agg #[.slice y.oa y.o.length y.oc,.slice y.ta y.t.length y.tc],(Des.updE s.d n D.f D.cu)])∧Below W' W' w'):=Hd fun n D W' hb=>by
  have h1:=Des.upd_v l.x n D.fi D.fl D.f D.cu D.rf W' (h.below hb).im.di.di (h.dz hr);rw [h.im.dp] at h1;exact h1.mono fun e w' ⟨y,h1,h2,h3,h4⟩=>⟨y,h1,h4⟩
 have HE:Hid (seekR s p o=if lkE s p o.fd 0≠0 then (badR (lkE s p o.fd 0),s) else if Des.updE s.d (Des.numV s.d p o.fd) o.off (Des.lookV s.d p o.fd).cu≠0 then (badR (Des.updE s.d (Des.numV s.d p o.fd) o.off (Des.lookV s.d p o.fd).cu),s) else (⟨0,0,⟨#[]⟩⟩,{s with d:=Des.updD s.d (Des.numV s.d p o.fd) o.off (Des.lookV s.d p o.fd).cu})):=Hd rfl;exact cm49):p:=h
theorem km102 {p : Prop} (h:p:=by
 generalize hwB:(((wc.setCell (W 1 0) I).setCell (W 1 1) I).setCell (W 1 2) J).setCell (W 1 3) (.func (.func 99) #[] #[.pointer (some (W 0 0)),.pointer (some (N 0)),.pointer (some (K 0))])=w9 at *;have HP:Bx2 W w9 W.heap.size (W.heap.size+1) cs [I,I,J,.func (.func 99) #[] #[.pointer (some (W 0 0)),.pointer (some (N 0)),.pointer (some (K 0))]]:=by rw [←hwB];exact HX.out.putR [I,I,J,.func (.func 99) #[] #[.pointer (some (W 0 0)),.pointer (some (N 0)),.pointer (some (K 0))]] rfl
 skip
 have HAN:Hid (At w9 N [nv]):=Hd (by rw [←hwB];exact HN2.out.apart b43 0 [I,I,J,.func (.func 99) #[] #[.pointer (some (W 0 0)),.pointer (some (N 0)),.pointer (some (K 0))]]);have HAK:Hid (At w9 K [D.fi,D.fl,o.off,D.cu,D.rf]):=Hd (by rw [←hwB];exact HK2.out.apart b43 0 [I,I,J,.func (.func 99) #[] #[.pointer (some (W 0 0)),.pointer (some (N 0)),.pointer (some (K 0))]]);clear r0 r1 r2 r3 rc0 rc1 rc2 rc3;obtain ⟨⟨q0,q1,q2,q3⟩,_,_⟩:=At.four HP.r;exact bodyPost_ret (v:=.agg #[I,I,J,.func (.func 99) #[] #[.pointer (some (W 0 0)),.pointer (some (N 0)),.pointer (some (K 0))]]) b107 rfl ⟨_,rfl,HP.bel,Or.inr ⟨99,_,rfl,fun _ _=>rfl,fun W2' hf2=>clo99 B l s p o x nv ⟨D.fi,D.fl,o.off,D.cu,D.rf⟩ W.heap.size N K W2' (hf2.mm HP.bel) hr b33 (hf2.at HAN.out b23) (hf2.at HAK.out b23)⟩⟩):p:=h
theorem km116 {p : Prop} (h:p:=by
 go_wp2_with fail;refine (bad_any ue _).mono ?_;exact cm4):p:=h
theorem km53 {p : Prop} (h:p:=by
 clear HU0;exact cm1):p:=h
theorem km137 {p : Prop} (h:p:=by
 exact cm102):p:=h
end Adqq
open Adqq in
set_option maxHeartbeats 8000000 in
theorem seek_any (B:Nat) (l:Ly) (s:St) (p:Int) (o:Opr) (x:Ev) (W:World) (h:Mm B W l s) (hr:Des.Rt s.d) (hn:s.fs.length≤1000):
 Calls Tryz.prog 69 #[stepV l.M p o x] W (PlanP B W l s (seekR s p o).1 (seekR s p o).2):=by
 exact cm89
theorem lk_zero {s:St} {p fd m:Int} (h:lkE s p fd m=0) (hr:Des.Rt s.d):Des.numE s.d p fd=0∧andV (Des.lookV s.d p fd).fl m=m∧Des.rightD (Des.lookV s.d p fd)=true∧∃f:Nat,(Des.lookV s.d p fd).fi=(f:Int)∧f<s.fs.length:=by
 unfold lkE at h;by_cases h1:Des.numE s.d p fd=0
 ·rw [if_neg (by simp [h1])] at h;by_cases h2:(s.fs.length:Int)≤(Des.lookV s.d p fd).fi
  ·rw [if_pos h2] at h;omega
  ·rw [if_neg h2] at h;by_cases h3:andV (Des.lookV s.d p fd).fl m=m
   ·obtain ⟨k,j,q,e1,e2,hk,hj,hq,hn,_,hpos⟩:=Des.num_ref h1;have hl:Des.lookV s.d p fd=s.d.o.getD q Dn.zero:=by unfold Des.lookV;rw [if_pos h1,hn,Int.toNat_natCast]
    have hrd:=hr.pos q hq hpos;rw [←hl] at hrd;have:0≤(Des.lookV s.d p fd).fi:=by
     have h4:=hrd;unfold Des.rightD Des.fixB at h4;rw [Bool.and_eq_true] at h4;exact (of_decide_eq_true h4.1).1
    exact ⟨h1,h3,hrd,(Des.lookV s.d p fd).fi.toNat,by omega,by omega⟩
   ·rw [if_pos h3] at h;omega
 ·rw [if_pos h1] at h;exact absurd h h1
def truncateR (s:St) (p:Int) (o:Opr):Res×St:=
 if lkE s p o.fd 2≠0 then (badR (lkE s p o.fd 2),s) else if (Con.truncV (s.fs.getD (Des.lookV s.d p o.fd).fi.toNat ⟨#[]⟩) o.off).2≠0 then (badR (Con.truncV (s.fs.getD (Des.lookV s.d p o.fd).fi.toNat ⟨#[]⟩) o.off).2,s) else (⟨0,0,⟨#[]⟩⟩,chS s (Des.lookV s.d p o.fd).fi.toNat (Con.truncV (s.fs.getD (Des.lookV s.d p o.fd).fi.toNat ⟨#[]⟩) o.off).1)
namespace Agss
theorem km1 {p : Prop} (h:p:=by
 exact bodyPost_ret (v:=.agg #[le,I,J,.nilFunc]) b108 rfl ⟨_,rfl,HP.bel,Or.inl ⟨rfl,rfl⟩⟩):p:=h
theorem km22 {p : Prop} (h:p:=by
 refine (HLK.out _ HX.out.bel).mono ?_;rintro e w1 ⟨rfl,hb⟩;replace HX:=Hd (HX.out.below hb);clear hb HLK;exact cm103):p:=h
theorem km49 {p : Prop} (h:p:=by
 generalize truncateR s p o=PR at *;generalize lkE s p o.fd 2=le at *;generalize Des.numV s.d p o.fd=nv at *;generalize Des.lookV s.d p o.fd=D at *;go_enter Tryz.func70,Tryz.ntmps70;exact cm22):p:=h
theorem km4 {p : Prop} (h:p:=by
 exact cm78):p:=h
theorem km78 {p : Prop} (h:p:=by
 exact bodyPost_ret (v:=.agg #[TE,I,J,.nilFunc]) b108 rfl ⟨_,rfl,HP.bel,Or.inl ⟨rfl,rfl⟩⟩):p:=h
theorem km80 {p : Prop} (h:p:=by
 have HCB:=Hd (fun W'=>HCA.out sd W' hsd);clear HCA HLZ hf hsd;obtain ⟨TD,TE,hte⟩:∃TD TE,Con.truncV sd o.off=(TD,TE):=⟨_,_,rfl⟩
 rw [hte] at HE HCB;simp only at HE HCB;clear hte;exact cm133):p:=h
theorem km81 {p : Prop} (h:p:=by
 have HCA:Hid (∀(sd:ByteArray) W',sd.size≤1000→Calls Tryz.prog 100 #[.string sd,o.off] W' (RetW (.tuple #[.string (Con.truncV sd o.off).1,(Con.truncV sd o.off).2]) W')):=Hd fun sd W' hs=>Con.trunc_any sd o.off W' b17;have HLZ:Hid (lkE s p o.fd 2=0→∃f:Nat,(Des.lookV s.d p o.fd).fi=(f:Int)∧f<s.fs.length):=Hd fun h0=>(lk_zero h0 hr).2.2.2;have HE:Hid (truncateR s p o=if lkE s p o.fd 2≠0 then (badR (lkE s p o.fd 2),s) else if (Con.truncV (s.fs.getD (Des.lookV s.d p o.fd).fi.toNat ⟨#[]⟩) o.off).2≠0 then (badR (Con.truncV (s.fs.getD (Des.lookV s.d p o.fd).fi.toNat ⟨#[]⟩) o.off).2,s) else (⟨0,0,⟨#[]⟩⟩,chS s (Des.lookV s.d p o.fd).fi.toNat (Con.truncV (s.fs.getD (Des.lookV s.d p o.fd).fi.toNat ⟨#[]⟩) o.off).1)):=Hd rfl;exact cm49):p:=h
theorem km102 {p : Prop} (h:p:=by
 generalize hwB:(((wc.setCell (W 1 0) I).setCell (W 1 1) I).setCell (W 1 2) J).setCell (W 1 3) (.func (.func 101) #[] #[.pointer (some (W 0 0)),.pointer (some (K 0)),.pointer (some (O 0))])=w9 at *;have HP:Bx2 W w9 W.heap.size (W.heap.size+1) cs [I,I,J,.func (.func 101) #[] #[.pointer (some (W 0 0)),.pointer (some (K 0)),.pointer (some (O 0))]]:=by rw [←hwB];exact HX.out.putR [I,I,J,.func (.func 101) #[] #[.pointer (some (W 0 0)),.pointer (some (K 0)),.pointer (some (O 0))]] rfl
 skip
 have HAK:Hid (At w9 K (dnL D)):=Hd (by rw [←hwB];exact HK.out.apart b43 0 [I,I,J,.func (.func 101) #[] #[.pointer (some (W 0 0)),.pointer (some (K 0)),.pointer (some (O 0))]]);have HAO:Hid (At w9 O [.string TD]):=Hd (by rw [←hwB];exact HO.out.at'.apart (by have:=HO.out.lo;have:=HKh.out;have:=HKN.out;omega) 0 [I,I,J,.func (.func 101) #[] #[.pointer (some (W 0 0)),.pointer (some (K 0)),.pointer (some (O 0))]]);clear r0 r1 r2 r3 rc0 rc1 rc2 rc3;obtain ⟨⟨q0,q1,q2,q3⟩,_,_⟩:=At.four HP.r;exact bodyPost_ret (v:=.agg #[I,I,J,.func (.func 101) #[] #[.pointer (some (W 0 0)),.pointer (some (K 0)),.pointer (some (O 0))]]) b108 rfl ⟨_,rfl,HP.bel,Or.inr ⟨101,_,rfl,fun _ _=>rfl,fun W2' hf2=>clo101 B l s p o x D f TD W.heap.size K O W2' (hf2.mm HP.bel) hfn b10 hn (hl f b10) HFI.out b33 (hf2.at HAK.out b23) (hf2.at HAO.out b23)⟩⟩):p:=h
theorem km103 {p : Prop} (h:p:=by
 by_cases hz:le=0
 ·exact cm118
 ·exact cm53):p:=h
theorem km116 {p : Prop} (h:p:=by
 go_wp2_with fail;refine (bad_any TE _).mono ?_;exact cm4):p:=h
theorem km118 {p : Prop} (h:p:=by
 exact cm80):p:=h
theorem km53 {p : Prop} (h:p:=by
 clear HCA HLZ;have HX9:=Hd (HX.out.below HBK.out);replace HX:=HX9;go_upto_region 2 with (fail)
 generalize w1.alloc (Obj.cells #[D.fi,D.fl,D.f,D.cu,D.rf] 126)=W1 at *;exact cm1):p:=h
theorem km124 {p : Prop} (h:p:=by
 have yt0:=HX0.out.t.cell 0 (.pointer (some (l.M 0))) b13;have yt6:=HX0.out.t.cell 6 (.int .i64 o.off) b13;have ymF:=(HM.out.below HX0.out.bel).cF;have ya:=(HM.out.below HX0.out.bel).f.cell f (.string sd) HFC.out;have yd:=HK.out.cell 0 (.int .i64 (f:Int)) b18;have t0:=HX.out.t.cell 0 (.pointer (some (l.M 0))) b13;have t6:=HX.out.t.cell 6 (.int .i64 o.off) b13;have mF:=(HM.out.below HX.out.bel).cF;have a:=(HM.out.below HX.out.bel).f.cell f (.string sd) HFC.out;have d:=(HK.out.below ((Below.refl W1 W1).drew) HK.out.hi).cell 0 (.int .i64 (f:Int)) b18;go_region_held3 (fun w'=>w'.cell? (W 0 0)=some (.pointer (some (l.M 0)))∧w'.cell? (W 0 6)=some (o.off:U)∧w'.cell? (l.M 21)=some (.slice (some (l.F 0)) s.fs.length s.fs.length)∧w'.cell? (l.F f)=some (.string sd)∧w'.cell? (K 0)=some (f:U)) (go_keep) (first|(go_at_call 100;refine (HCB.out _).mono ?_;rintro e w2 ⟨rfl,hb⟩;(first|(have HA:=Hd hb;have HKB:=Hd (HK.out.below ((Below.refl W1 W1).drew.trans hb) HK.out.hi);replace HX:=Hd (HX.out.below hb))|(have HB:=Hd hb;have HKB:=Hd (HK.out.below (((Below.refl W1 W1).alloc Nr _).drew.trans (hb.mono b125)) HK.out.hi);obtain ⟨_,f0,fh⟩:=At.one (((At.new W1 [J] 9).drew).below hb b38);replace HX:=Hd ((HX.out.below (Br.alloc Nr _)).below hb)));clear hb t0 t6 mF a d;have t0:=HX.out.t.cell 0 (.pointer (some (l.M 0))) b13;have t6:=HX.out.t.cell 6 (.int .i64 o.off) b13;have mF:=(HM.out.below HX.out.bel).cF;have a:=(HM.out.below HX.out.bel).f.cell f (.string sd) HFC.out;have d:=(HKB.out).cell 0 (.int .i64 (f:Int)) b18))
 all_goals
  go_wp2_with fail;go_meet;first|exact ⟨_,rfl,rfl,Hd (Nb.after ((Below.refl W1 W1).drew.trans HA.out) [.string TD] 9)⟩|exact ⟨_,rfl,rfl,Hd (Nb.before (T:=9) (zs:=[J]) ((Below.refl (W1.alloc _).heap.size (W1.alloc _)).drew.trans HB.out) [.string TD] rfl)⟩):p:=h
theorem km133 {p : Prop} (h:p:=by
 by_cases hu:TE=0
 ·subst hu;exact cm137
 ·have hu':(TE==0)=false:=by simpa using hu
  exact cm116):p:=h
theorem km137 {p : Prop} (h:p:=by
 exact cm102):p:=h
end Agss
open Agss in
set_option maxHeartbeats 8000000 in
theorem truncate_any (B:Nat) (l:Ly) (s:St) (p:Int) (o:Opr) (x:Ev) (W:World) (h:Mm B W l s) (hr:Des.Rt s.d) (hn:s.fs.length≤1000) (hsz:∀y,y∈s.fs→y.size≤1000) (hfh:s.h.length=s.fs.length) (hl:∀i,i<s.h.length→(s.h.getD i ([],0)).1.length≤10000):
 Calls Tryz.prog 70 #[stepV l.M p o x] W (PlanP B W l s (truncateR s p o).1 (truncateR s p o).2):=by
 exact cm81
theorem punch_ok {s:ByteArray} {off n:Int} (h:(Con.punchV s off n).2=0):0≤off∧off≤128:=by
 unfold Con.punchV at h;by_cases h1:Con.longB s=true
 ·rw [if_pos h1] at h;simp at h
 ·rw [if_neg h1] at h;by_cases h2:Con.badB off=true∨n<0
  ·rw [if_pos h2] at h;simp at h
  ·have:¬(off<0∨128<off):=fun e=>h2 (Or.inl (by unfold Con.badB;exact decide_eq_true e));omega
def punchR (s:St) (p:Int) (o:Opr):Res×St:=
 if lkE s p o.fd 2≠0 then (badR (lkE s p o.fd 2),s) else if (Con.punchV (s.fs.getD (Des.lookV s.d p o.fd).fi.toNat ⟨#[]⟩) o.off o.len).2≠0∨128-o.off<o.len then (badR 2,s) else (⟨0,0,⟨#[]⟩⟩,chS s (Des.lookV s.d p o.fd).fi.toNat (Con.punchV (s.fs.getD (Des.lookV s.d p o.fd).fi.toNat ⟨#[]⟩) o.off o.len).1)
namespace Avsj
theorem km1 {p : Prop} (h:p:=by
 exact bodyPost_ret (v:=.agg #[le,I,J,.nilFunc]) b109 rfl ⟨_,rfl,HP.bel,Or.inl ⟨rfl,rfl⟩⟩):p:=h
theorem km22 {p : Prop} (h:p:=by
 refine (HLK.out _ HX.out.bel).mono ?_;rintro e w1 ⟨rfl,hb⟩;replace HX:=Hd (HX.out.below hb);clear hb HLK;exact cm103):p:=h
theorem km49 {p : Prop} (h:p:=by
 generalize punchR s p o=PR at *;generalize lkE s p o.fd 2=le at *;generalize Des.numV s.d p o.fd=nv at *;generalize Des.lookV s.d p o.fd=D at *;go_enter Tryz.func71,Tryz.ntmps71;exact cm22):p:=h
theorem km53 {p : Prop} (h:p:=by
 clear HCA HLZ;have HX9:=Hd (HX.out.below HBK.out);replace HX:=HX9;go_upto_region 2 with (fail)
 generalize w1.alloc (Obj.cells #[D.fi,D.fl,D.f,D.cu,D.rf] 126)=W1 at *;exact cm1):p:=h
theorem km80 {p : Prop} (h:p:=by
 have HCB:=Hd (fun W'=>HCA.out sd W' hsd);clear HCA HLZ hf hsd;obtain ⟨TD,TE,hte⟩:∃TD TE,Con.punchV sd o.off o.len=(TD,TE):=⟨_,_,rfl⟩
 rw [hte] at HE HCB;simp only at HE HCB;have HOK:Hid (TE=0→0≤o.off∧o.off≤128):=Hd (fun e=>punch_ok (by rw [hte];exact e));clear hte;exact cm133):p:=h
theorem km81 {p : Prop} (h:p:=by
 have HCA:Hid (∀(sd:ByteArray) W',sd.size≤1000→Calls Tryz.prog 102 #[.string sd,o.off,o.len] W' (RetW (.tuple #[.string (Con.punchV sd o.off o.len).1,(Con.punchV sd o.off o.len).2]) W')):=Hd fun sd W' hs=>Con.punch_any sd o.off o.len W' b17;have HLZ:Hid (lkE s p o.fd 2=0→∃f:Nat,(Des.lookV s.d p o.fd).fi=(f:Int)∧f<s.fs.length):=Hd fun h0=>(lk_zero h0 hr).2.2.2;have HE:Hid (punchR s p o=if lkE s p o.fd 2≠0 then (badR (lkE s p o.fd 2),s) else if (Con.punchV (s.fs.getD (Des.lookV s.d p o.fd).fi.toNat ⟨#[]⟩) o.off o.len).2≠0∨128-o.off<o.len then (badR 2,s) else (⟨0,0,⟨#[]⟩⟩,chS s (Des.lookV s.d p o.fd).fi.toNat (Con.punchV (s.fs.getD (Des.lookV s.d p o.fd).fi.toNat ⟨#[]⟩) o.off o.len).1)):=Hd rfl;exact cm49):p:=h
theorem km102 {p : Prop} (h:p:=by
 generalize hwB:(((wc.setCell (W 1 0) I).setCell (W 1 1) I).setCell (W 1 2) J).setCell (W 1 3) (.func (.func 103) #[] #[.pointer (some (W 0 0)),.pointer (some (K 0)),.pointer (some (O 0))])=w9 at *;have HP:Bx2 W w9 W.heap.size (W.heap.size+1) cs [I,I,J,.func (.func 103) #[] #[.pointer (some (W 0 0)),.pointer (some (K 0)),.pointer (some (O 0))]]:=by rw [←hwB];exact HX.out.putR [I,I,J,.func (.func 103) #[] #[.pointer (some (W 0 0)),.pointer (some (K 0)),.pointer (some (O 0))]] rfl
 skip
 have HAK:Hid (At w9 K (dnL D)):=Hd (by rw [←hwB];exact HK.out.apart b43 0 [I,I,J,.func (.func 103) #[] #[.pointer (some (W 0 0)),.pointer (some (K 0)),.pointer (some (O 0))]]);have HAO:Hid (At w9 O [.string TD]):=Hd (by rw [←hwB];exact HO.out.at'.apart (by have:=HO.out.lo;have:=HKh.out;have:=HKN.out;omega) 0 [I,I,J,.func (.func 103) #[] #[.pointer (some (W 0 0)),.pointer (some (K 0)),.pointer (some (O 0))]]);clear r0 r1 r2 r3 rc0 rc1 rc2 rc3;obtain ⟨⟨q0,q1,q2,q3⟩,_,_⟩:=At.four HP.r;exact bodyPost_ret (v:=.agg #[I,I,J,.func (.func 103) #[] #[.pointer (some (W 0 0)),.pointer (some (K 0)),.pointer (some (O 0))]]) b109 rfl ⟨_,rfl,HP.bel,Or.inr ⟨103,_,rfl,fun _ _=>rfl,fun W2' hf2=>clo103 B l s p o x D f TD W.heap.size K O W2' (hf2.mm HP.bel) hfn b10 hn (hl f b10) HFI.out b33 (hf2.at HAK.out b23) (hf2.at HAO.out b23)⟩⟩):p:=h
theorem km103 {p : Prop} (h:p:=by
 by_cases hz:le=0
 ·exact cm118
 ·exact cm53):p:=h
theorem km118 {p : Prop} (h:p:=by
 exact cm80):p:=h
theorem km124 {p : Prop} (h:p:=by
 have yt0:=HX0.out.t.cell 0 (.pointer (some (l.M 0))) b13;have yt6:=HX0.out.t.cell 6 (.int .i64 o.off) b13;have yt7:=HX0.out.t.cell 7 (.int .i64 o.len) b13;have ymF:=(HM.out.below HX0.out.bel).cF;have ya:=(HM.out.below HX0.out.bel).f.cell f (.string sd) HFC.out;have yd:=HK.out.cell 0 (.int .i64 (f:Int)) b18;have t0:=HX.out.t.cell 0 (.pointer (some (l.M 0))) b13;have t6:=HX.out.t.cell 6 (.int .i64 o.off) b13;have t7:=HX.out.t.cell 7 (.int .i64 o.len) b13;have mF:=(HM.out.below HX.out.bel).cF;have a:=(HM.out.below HX.out.bel).f.cell f (.string sd) HFC.out;have d:=(HK.out.below ((Below.refl W1 W1).drew) HK.out.hi).cell 0 (.int .i64 (f:Int)) b18;go_region_held3 (fun w'=>w'.cell? (W 0 0)=some (.pointer (some (l.M 0)))∧w'.cell? (W 0 6)=some (o.off:U)∧w'.cell? (W 0 7)=some (o.len:U)∧w'.cell? (l.M 21)=some (.slice (some (l.F 0)) s.fs.length s.fs.length)∧w'.cell? (l.F f)=some (.string sd)∧w'.cell? (K 0)=some (f:U)) (go_keep) (first|(go_at_call 102;refine (HCB.out _).mono ?_;rintro e w2 ⟨rfl,hb⟩;(first|(have HA:=Hd hb;have HKB:=Hd (HK.out.below ((Below.refl W1 W1).drew.trans hb) HK.out.hi);replace HX:=Hd (HX.out.below hb))|(have HB:=Hd hb;have HKB:=Hd (HK.out.below (((Below.refl W1 W1).alloc Nr _).drew.trans (hb.mono b125)) HK.out.hi);obtain ⟨_,f0,fh⟩:=At.one (((At.new W1 [J] 9).drew).below hb b38);replace HX:=Hd ((HX.out.below (Br.alloc Nr _)).below hb)));clear hb t0 t6 t7 mF a d;have t0:=HX.out.t.cell 0 (.pointer (some (l.M 0))) b13;have t6:=HX.out.t.cell 6 (.int .i64 o.off) b13;have t7:=HX.out.t.cell 7 (.int .i64 o.len) b13;have mF:=(HM.out.below HX.out.bel).cF;have a:=(HM.out.below HX.out.bel).f.cell f (.string sd) HFC.out;have d:=(HKB.out).cell 0 (.int .i64 (f:Int)) b18))
 all_goals
  go_wp2_with fail;go_meet;first|exact ⟨_,rfl,rfl,Hd (Nb.after ((Below.refl W1 W1).drew.trans HA.out) [.string TD] 9)⟩|exact ⟨_,rfl,rfl,Hd (Nb.before (T:=9) (zs:=[J]) ((Below.refl (W1.alloc _).heap.size (W1.alloc _)).drew.trans HB.out) [.string TD] rfl)⟩):p:=h
theorem km133 {p : Prop} (h:p:=by
 by_cases hu:TE=0
 ·subst hu;obtain ⟨g0,g1⟩:=HOK.out rfl;have t6:=HX.out.t.cell 6 (.int .i64 o.off) b13;have t7:=HX.out.t.cell 7 (.int .i64 o.len) b13;by_cases hv:128-o.off<o.len
  ·obtain ⟨PR1,PR2⟩:=PR;obtain ⟨rfl,rfl⟩:PR1=_∧PR2=_:=by have:=HE.out.trans (if_pos (Or.inr hv));exact ⟨congrArg Prod.fst this,congrArg Prod.snd this⟩
   clear HE;exact cl27
  ·obtain ⟨PR1,PR2⟩:=PR;obtain ⟨rfl,rfl⟩:PR1=_∧PR2=_:=by have:=HE.out.trans (if_neg b16);exact ⟨congrArg Prod.fst this,congrArg Prod.snd this⟩
   exact cm102
 ·have hu':(TE==0)=false:=by simpa using hu
  obtain ⟨PR1,PR2⟩:=PR;obtain ⟨rfl,rfl⟩:PR1=_∧PR2=_:=by have:=HE.out.trans (if_pos (Or.inl hu));exact ⟨congrArg Prod.fst this,congrArg Prod.snd this⟩
  clear HE;have t6:=HX.out.t.cell 6 (.int .i64 o.off) b13;have t7:=HX.out.t.cell 7 (.int .i64 o.len) b13;exact cl27):p:=h
end Avsj
open Avsj in
set_option maxHeartbeats 8000000 in
theorem punch_any (B:Nat) (l:Ly) (s:St) (p:Int) (o:Opr) (x:Ev) (W:World) (h:Mm B W l s) (hr:Des.Rt s.d) (hn:s.fs.length≤1000) (hsz:∀y,y∈s.fs→y.size≤1000) (hfh:s.h.length=s.fs.length) (hl:∀i,i<s.h.length→(s.h.getD i ([],0)).1.length≤10000):
 Calls Tryz.prog 71 #[stepV l.M p o x] W (PlanP B W l s (punchR s p o).1 (punchR s p o).2):=by
 exact cm81
end Go.Proofs.YtimhaidiclbnhaaGreat.Ver
