import Derived.Test.YtimhaidiclbnhaaGreatP24
import Derived.Test.YtimhaidiclbnhaaGreatP25
set_option linter.unusedSimpArgs false
set_option linter.unusedVariables false
set_option maxRecDepth 100000
open Go.ChangeShapes Go.WideShapes Go.ChangeAt Go.RowKit
namespace Go.Proofs.YtimhaidiclbnhaaGreat.Ver
open Des (Dv De Dn DIn DBlk DAns Vi At RowOf ints DSz)
open Ara (Ar ARow)
open Con (StrRow)
def syncR (s:St) (p:Int) (o:Opr) (x:Ev):Res×St:=
 if lkE s p o.fd 0≠0 then (badR (lkE s p o.fd 0),s) else (⟨(if (Des.lookV s.d p o.fd).cu<s.fa.getD (Des.lookV s.d p o.fd).fi.toNat 0 then s.la.getD (Des.lookV s.d p o.fd).fi.toNat 0 else 0),0,⟨#[]⟩⟩,syS {s with d:=Des.updD s.d (Des.numV s.d p o.fd) (Des.lookV s.d p o.fd).f (s.fa.getD (Des.lookV s.d p o.fd).fi.toNat 0)} (Des.lookV s.d p o.fd).fi.toNat x)
namespace Awm0
theorem km1 {p : Prop} (h:p:=by
 exact bodyPost_ret (v:=.agg #[le,I,J,.nilFunc]) (by simp [results,Tryz.results72,go_sem,q0,q1,q2,q3]) rfl ⟨_,rfl,HP.bel,Or.inl ⟨rfl,rfl⟩⟩):p:=h
theorem km21 {p : Prop} (h:p:=by
 by_cases hz:le=0
 ·exact cm118
 ·exact cm53):p:=h
theorem km49 {p : Prop} (h:p:=by
 generalize syncR s p o x=PR at *;generalize lkE s p o.fd 0=le at *;generalize Des.numV s.d p o.fd=nv at *;generalize Des.lookV s.d p o.fd=D at *;go_enter Tryz.func72,Tryz.ntmps72;exact cm21):p:=h
theorem km53 {p : Prop} (h:p:=by
 clear HLZ;exact cm1):p:=h
theorem km89 {p : Prop} (h:p:=by
 have HLZ:Hid (lkE s p o.fd 0=0→∃f:Nat,(Des.lookV s.d p o.fd).fi=(f:Int)∧f<s.fs.length):=Hd fun h0=>(lk_zero h0 hr).2.2.2;have HE:Hid (syncR s p o x=if lkE s p o.fd 0≠0 then (badR (lkE s p o.fd 0),s) else (⟨(if (Des.lookV s.d p o.fd).cu<s.fa.getD (Des.lookV s.d p o.fd).fi.toNat 0 then s.la.getD (Des.lookV s.d p o.fd).fi.toNat 0 else 0),0,⟨#[]⟩⟩,syS {s with d:=Des.updD s.d (Des.numV s.d p o.fd) (Des.lookV s.d p o.fd).f (s.fa.getD (Des.lookV s.d p o.fd).fi.toNat 0)} (Des.lookV s.d p o.fd).fi.toNat x)):=Hd rfl;exact cm49):p:=h
theorem km102 {p : Prop} (h:p:=by
 generalize hwB:(((W3.setCell (W 1 0) told).setCell (W 1 1) I).setCell (W 1 2) J).setCell (W 1 3) (.func (.func 104) #[] #[.pointer (some (W 0 0)),.pointer (some (N 0)),.pointer (some (K 0))])=w9 at *;have HP:Bx2 W w9 W.heap.size (W.heap.size+1) cs [told,I,J,.func (.func 104) #[] #[.pointer (some (W 0 0)),.pointer (some (N 0)),.pointer (some (K 0))]]:=by rw [←hwB];exact HX.out.putR [told,I,J,.func (.func 104) #[] #[.pointer (some (W 0 0)),.pointer (some (N 0)),.pointer (some (K 0))]] rfl
 skip
 have HAN:Hid (At w9 N [nv]):=Hd (by rw [←hwB];exact HN2.out.apart b43 0 [told,I,J,.func (.func 104) #[] #[.pointer (some (W 0 0)),.pointer (some (N 0)),.pointer (some (K 0))]]);have HAK:Hid (At w9 K [D.fi,D.fl,D.f,fv,D.rf]):=Hd (by rw [←hwB];exact HK2.out.apart b43 0 [told,I,J,.func (.func 104) #[] #[.pointer (some (W 0 0)),.pointer (some (N 0)),.pointer (some (K 0))]]);clear r0 r1 r2 r3 rc0 rc1 rc2 rc3;obtain ⟨⟨q0,q1,q2,q3⟩,_,_⟩:=At.four HP.r;exact bodyPost_ret (v:=.agg #[told,I,J,.func (.func 104) #[] #[.pointer (some (W 0 0)),.pointer (some (N 0)),.pointer (some (K 0))]]) (by simp [results,Tryz.results72,go_sem,q0,q1,q2,q3]) rfl ⟨_,rfl,HP.bel,Or.inr ⟨104,_,rfl,fun _ _=>rfl,fun W2' hf2=>clo104 B l s p o x nv ⟨D.fi,D.fl,D.f,fv,D.rf⟩ f W.heap.size N K W2' (hf2.mm HP.bel) hr hfn b10 b10 hn (hl f b10) (hsl f b10) (hst f b10) HFI.out b33 (hf2.at HAN.out b23) (hf2.at HAK.out b23) (fun hm=>by have:=HM.out.hi _ hm;omega) (fun hm=>by have:=HM.out.hi _ hm;have:=HKN.out;omega)⟩⟩):p:=h
theorem km118 {p : Prop} (h:p:=by
 clear HLZ hf;have HFA:Hid ((ints s.fa)[f]? =some ((s.fa.getD f 0):U)):=Hd (Des.ints_at s.fa f b10);have HLA:Hid ((ints s.la)[f]? =some ((s.la.getD f 0):U)):=Hd (Des.ints_at s.la f b10);generalize s.fa.getD f 0=fv at *;generalize s.la.getD f 0=lv at *;have hfI:(f:Int)<(s.fs.length:Int):=b10;have hnI:(s.fs.length:Int)≤1000:=b10;go_upto_region 5 with (fail)
 go_cut [28,6] (fun v v6 wx=>v=.bool (decide (D.cu<fv))∧v6=.int .i64 0∧Hid (Below W1 W1 wx))
 case first=>
  have t0:=HX.out.t.cell 0 (.pointer (some (l.M 0))) b13;have mA:=(HM.out.below HX.out.bel).cA;have a:=(HM.out.below HX.out.bel).a.cell f _ HFA.out;have mL:=(HM.out.below HX.out.bel).cL;have b:=(HM.out.below HX.out.bel).la.cell f _ HLA.out;have d0:=HK.out.cell 0 (.int .i64 (f:Int)) b18;have d3:=HK.out.cell 3 (.int .i64 D.cu) rfl;by_cases hcu:D.cu<fv
  ·exact cl95
  ·exact cl95
 case rest=>
 obtain ⟨rfl,rfl,HBB⟩:=hcut;replace HX:=Hd (HX.out.below HBB.out);replace HN:=Hd (HN.out.below HBB.out HN.out.hi);replace HK:=Hd (HK.out.below HBB.out HK.out.hi);clear HBB;go_upto_if 28 with (fail)
 go_cut [6] (fun v6 wx=>v6=.int .i64 (if D.cu<fv then lv else 0)∧Hid (Bx2 W wx W.heap.size (W.heap.size+1) cs [I,I,J,.nilFunc])∧Hid (At wx N [nv])∧Hid (At wx K [D.fi,D.fl,D.f,D.cu,D.rf]))
 case first=>
  have t0:=HX.out.t.cell 0 (.pointer (some (l.M 0))) b13;have mA:=(HM.out.below HX.out.bel).cA;have a:=(HM.out.below HX.out.bel).a.cell f _ HFA.out;have mL:=(HM.out.below HX.out.bel).cL;have b:=(HM.out.below HX.out.bel).la.cell f _ HLA.out;have d0:=HK.out.cell 0 (.int .i64 (f:Int)) b18;have d3:=HK.out.cell 3 (.int .i64 D.cu) rfl;by_cases hcu:D.cu<fv
  ·have hd:decide (D.cu<fv)=true:=decide_eq_true hcu;rw [hd];have HCU:=Hd hcu;clear hd hcu;go_wp2_with fail;go_quiet (fail);go_wp2_with fail;go_meet;exact ⟨by rw [if_pos HCU.out],Hd (HX.out.below (below_drewN Br nq)),Hd (HN.out.below (below_drewN Br nq) HN.out.hi),Hd (HK.out.below (below_drewN Br nq) HK.out.hi)⟩
  ·have hd:decide (D.cu<fv)=false:=decide_eq_false hcu;rw [hd];have HCU:=Hd hcu;clear hd hcu;go_wp2_with fail;go_meet;exact ⟨by rw [if_neg (by have:=HCU.out;omega)],HX,HN,HK⟩
 case rest=>
 clear HX HN HK;obtain ⟨rfl,HX,HN,HK⟩:=hcut;generalize (if D.cu<fv then lv else 0)=told at *;go_upto_region 7 with (fail)
 obtain ⟨W2,hW2⟩:∃W2,W2=wc:=⟨_,rfl⟩
 subst hW2;replace HX:=Hd (HX.out.below Br.drew);replace HN:=Hd (Des.At.drew HN.out);replace HK:=Hd (Des.At.drew HK.out);have t0:=HX.out.t.cell 0 (.pointer (some (l.M 0))) b13;have mA:=(HM.out.below HX.out.bel).cA;have a:=(HM.out.below HX.out.bel).a.cell f _ HFA.out;have mL:=(HM.out.below HX.out.bel).cL;have b:=(HM.out.below HX.out.bel).la.cell f _ HLA.out;have d0:=HK.out.cell 0 (.int .i64 (f:Int)) b18;have d3:=HK.out.cell 3 (.int .i64 D.cu) rfl;obtain ⟨_,⟨f0,f1,f2,f3,f4⟩,fh⟩:=Des.At.five HK.out;have HX2:Hid (Bx2 W (W2.drew.setCell (K 3) fv) W.heap.size (W.heap.size+1) cs [I,I,J,.nilFunc]):=Hd ⟨HX.out.bel.setCell (p:=(K 3)) b72 _,HX.out.t.setOther (x:=⟨K,3,none⟩) b73 _,HX.out.r.setOther (x:=⟨K,3,none⟩) b74 _,HX.out.lo,HX.out.tr⟩;have HK2:=Hd (HK.out.set 3 (.int .i64 fv));have HN2:Hid (At (W2.drew.setCell (K 3) fv) N [nv]):=Hd (HN.out.setOther (x:=⟨K,3,none⟩) b75 _);obtain ⟨W3,hW3⟩:∃W3,W3=W2.drew.setCell (K 3) fv:=⟨_,rfl⟩
 rw [←hW3] at HX2 HK2 HN2;have HW3:=Hd hW3;clear hW3;go_region;rw [show (W2.setCell (K 3) fv).drew=W3 from HW3.out.symm] at *;replace HK2:Hid (At W3 K [D.fi,D.fl,D.f,fv,D.rf]):=HK2;replace HX:=HX2;clear HX2 HK HN HW3 t0 mA a mL b d0 d3 f0 f1 f2 f3 f4 fh;obtain ⟨PR1,PR2⟩:=PR;obtain ⟨rfl,rfl⟩:PR1=_∧PR2=_:=by have:=HE.out;exact ⟨congrArg Prod.fst this,congrArg Prod.snd this⟩
 exact cm102):p:=h
end Awm0
open Awm0 in
set_option maxHeartbeats 8000000 in
theorem sync_any (B:Nat) (l:Ly) (s:St) (p:Int) (o:Opr) (x:Ev) (W:World) (h:Mm B W l s) (hr:Des.Rt s.d) (hn:s.fs.length≤1000) (hfa:s.fa.length=s.fs.length) (hla:s.la.length=s.fs.length) (hfh:s.h.length=s.fs.length) (hfs:s.st.length=s.fs.length) (hl:∀i,i<s.h.length→(s.h.getD i ([],0)).1.length≤10000) (hsl:∀i,i<s.st.length→(s.st.getD i []).length≤10000) (hst:∀i,i<s.st.length→∀z,z∈s.st.getD i []→0≤z∧z≤1000000):
 Calls Tryz.prog 72 #[stepV l.M p o x] W (PlanP B W l s (syncR s p o x).1 (syncR s p o x).2):=by
 exact cm89
def mappedR (s:St) (p:Nat) (o:Opr):Res×St:=
 if lkE s p o.fd 1≠0 then (badR (lkE s p o.fd 1),s) else if o.wr=true∧andV (Des.lookV s.d p o.fd).fl 2=0 then (badR 13,s) else if (Ara.mapV [] (⟨0,o.len,(Des.lookV s.d p o.fd).fi,o.pg,o.wr⟩:Ar)).2≠0 then (badR (Ara.mapV [] (⟨0,o.len,(Des.lookV s.d p o.fd).fi,o.pg,o.wr⟩:Ar)).2,s) else if (Ara.roomV (s.ar.getD p []) o.len).2=false then (badR 3,s) else if (Ara.mapV (s.ar.getD p []) (⟨(Ara.roomV (s.ar.getD p []) o.len).1,o.len,(Des.lookV s.d p o.fd).fi,o.pg,o.wr⟩:Ar)).2≠0 then (badR (Ara.mapV (s.ar.getD p []) (⟨(Ara.roomV (s.ar.getD p []) o.len).1,o.len,(Des.lookV s.d p o.fd).fi,o.pg,o.wr⟩:Ar)).2,s) else (⟨0,(Ara.roomV (s.ar.getD p []) o.len).1,⟨#[]⟩⟩,{s with ar:=s.ar.set p (Ara.mapV (s.ar.getD p []) (⟨(Ara.roomV (s.ar.getD p []) o.len).1,o.len,(Des.lookV s.d p o.fd).fi,o.pg,o.wr⟩:Ar)).1})
namespace Agg3
theorem km1 {p : Prop} (h:p:=by
 exact bodyPost_ret (v:=.agg #[le,I,J,.nilFunc]) b60 rfl ⟨_,rfl,HP.bel,Or.inl ⟨rfl,rfl⟩⟩):p:=h
theorem km22 {p : Prop} (h:p:=by
 refine (HLK.out _ HX.out.bel).mono ?_;rintro e w1 ⟨rfl,hb⟩;replace HX:=Hd (HX.out.below hb);clear hb HLK;have hpI:(p:Int)<(s.scr.length:Int):=b10;have hnI:(s.scr.length:Int)≤1000:=b10;exact cm103):p:=h
theorem km49 {p : Prop} (h:p:=by
 generalize mappedR s p o=PR at *;generalize lkE s p o.fd 1=le at *;generalize Des.numV s.d p o.fd=nv at *;generalize Des.lookV s.d p o.fd=D at *;go_enter Tryz.func73,Tryz.ntmps73;exact cm22):p:=h
theorem km4 {p : Prop} (h:p:=by
 exact cm126):p:=h
theorem km78 {p : Prop} (h:p:=by
 exact bodyPost_ret (v:=.agg #[TE,I,J,.nilFunc]) b60 rfl ⟨_,rfl,HP.bel,Or.inl ⟨rfl,rfl⟩⟩):p:=h
theorem km88 {p : Prop} (h:p:=by
 obtain ⟨a0,c0,hsl⟩:∃a c,l.ar.getD p Sl.nil=⟨a,c⟩:=⟨_,_,rfl⟩
 have HM1A:Hid (∀(A:Ar) W',Calls Tryz.prog 106 #[σ,.agg #[A.st,A.cn,A.fi,A.pg,.bool A.wr]] W' (fun e w'=>∃b c,e=.returned (.tuple #[.slice b (Ara.mapV [] A).1.length c,(Ara.mapV [] A).2])∧Below W' W' w')):=Hd fun A W'=>(Ara.map_any 0 none [] 0 A W' (Or.inl ⟨rfl,rfl,rfl⟩) b11 (Ara.insOK_any A b11)).mono fun e w' ⟨b,c,h1,h2,h3⟩=>⟨b,c,h1,h3⟩
 have HRO:Hid (∀W',Below W W W'→Calls Tryz.prog 107 #[.slice a0 (s.ar.getD p []).length c0,o.len] W' (RetW (.tuple #[(Ara.roomV (s.ar.getD p []) o.len).1,.bool (Ara.roomV (s.ar.getD p []) o.len).2]) W')):=Hd fun W' hb=>by
  have h1:=(h.below hb).im.ra p hp;rw [hsl] at h1;exact Ara.room_any 0 a0 _ c0 o.len W' h1.1 hal
 have HM2A:Hid (∀(A:Ar) W',Below W W W'→Calls Tryz.prog 106 #[.slice a0 (s.ar.getD p []).length c0,.agg #[A.st,A.cn,A.fi,A.pg,.bool A.wr]] W' (fun e w'=>∃b c,e=.returned (.tuple #[.slice b (Ara.mapV (s.ar.getD p []) A).1.length c,(Ara.mapV (s.ar.getD p []) A).2])∧ARow W'.heap.size b c (Ara.mapV (s.ar.getD p []) A).1 w'∧Below W' W' w')):=Hd fun A W' hb=>by
  have h1:=(h.below hb).im.ra p hp;rw [hsl] at h1;exact Ara.map_any 0 a0 _ c0 A W' h1.1 hal (Ara.insOK_any A hal)
 exact cm106):p:=h
theorem km103 {p : Prop} (h:p:=by
 go_upto_region 2 with (fail)
 replace HX:=Hd (HX.out.below HBK.out);clear HBK;generalize w1.alloc (Obj.cells #[D.fi,D.fl,D.f,D.cu,D.rf] 126)=W1 at *;generalize w1.heap.size=K at *;clear hsl;generalize hll:(s.ar.getD p []).length=la at *;clear hll;by_cases hz:le=0
 ·subst hz;have HE2:=Hd (HE.out.trans (if_neg b11));clear HE;have HE:=HE2;clear HE2;have d1:=HK.out.cell 1 (.int .i64 D.fl) rfl;go_cut [30] (fun v wx=>v=.bool (decide (o.wr=true∧andV D.fl 2=0))∧W1=wx)
  case first=>
   cases hw:o.wr with
   |false=>
    have t10:=HX.out.t.cell 10 (.bool false) (by rw [HCS.out,←hw];rfl);go_wp2_with fail;go_meet;exact ⟨by simp [hw],rfl⟩
   |true=>
    have t10:=HX.out.t.cell 10 (.bool true) (by rw [HCS.out,←hw];rfl);by_cases ha:andV D.fl 2=0
    ·have ha1:bits BinOp.and IntKind.i64 D.fl 2=0:=ha;go_wp2_with fail;go_meet;exact ⟨by simp [hw,ha],rfl⟩
    ·have ha1:¬bits BinOp.and IntKind.i64 D.fl 2=0:=ha;have ha2:(bits BinOp.and IntKind.i64 D.fl 2==0)=false:=by simpa using ha1
     go_wp2_with fail;go_meet;exact ⟨by simp [ha],rfl⟩
  case rest=>
  obtain ⟨rfl,rfl⟩:=hcut;clear d1;by_cases hc:o.wr=true∧andV D.fl 2=0
  ·have hd:decide (o.wr=true∧andV D.fl 2=0)=true:=decide_eq_true hc;rw [hd];obtain ⟨PR1,PR2⟩:=PR;obtain ⟨rfl,rfl⟩:PR1=_∧PR2=_:=by have:=HE.out.trans (if_pos hc);exact ⟨congrArg Prod.fst this,congrArg Prod.snd this⟩
   clear HE;clear hc hd HM1A HRO HM2A;go_wp2_with fail;refine (bad_any 13 _).mono ?_;exact cm4
  ·have hd:decide (o.wr=true∧andV D.fl 2=0)=false:=decide_eq_false hc;rw [hd];have HE2:=Hd (HE.out.trans (if_neg hc));clear HE hc hd;have HE:=HE2;clear HE2;have d0:=HK.out.cell 0 (.int .i64 D.fi) rfl;have t7:=HX.out.t.cell 7 (.int .i64 o.len) b13;have t8:=HX.out.t.cell 8 (.int .i64 o.pg) b13;have t10:=HX.out.t.cell 10 (.bool o.wr) b13;obtain ⟨TE,hte⟩:∃TE,(Ara.mapV [] (⟨0,o.len,D.fi,o.pg,o.wr⟩:Ar)).2=TE:=⟨_,rfl⟩
   rw [hte] at HE;have HC1:Hid (∀W',Calls Tryz.prog 106 #[σ,.agg #[I,o.len,D.fi,o.pg,.bool o.wr]] W' (fun e w'=>∃b c n,e=.returned (.tuple #[.slice b n c,.int .i64 TE])∧Below W' W' w')):=Hd fun W'=>(HM1A.out ⟨0,o.len,D.fi,o.pg,o.wr⟩ W').mono fun e w' ⟨b,c,h1,h2⟩=>⟨b,c,_,by rw [←hte];exact h1,h2⟩
   clear HM1A hte;go_upto_region 7 with (fail)
   have HG:=Hd (At.new W1 [I,o.len,D.fi,o.pg,.bool o.wr] 139);have HBG:Hid (Below W1 W1 (W1.alloc (.cells ([I,o.len,D.fi,o.pg,.bool o.wr]:List Value).toArray 139))):=Hd (Br.alloc Nr _);replace HX:=Hd (HX.out.below HBG.out);have HRG:Hid (W.heap.size+1<W1.heap.size):=Hd (by have:=HR1.out;have:=HK.out.hi;omega);generalize W1.alloc (Obj.cells #[I,o.len,D.fi,o.pg,.bool o.wr] 139)=W2 at *;generalize W1.heap.size=G at *;clear d0 t7 t8 t10 HBG;obtain ⟨⟨n0,n1,n2,n3,n4⟩,_,_⟩:=Des.At.five HG.out;go_wp2_with fail;refine (HC1.out _).mono ?_;rintro e w3 ⟨b,c,n,rfl,hb⟩;replace HX:=Hd (HX.out.below hb);replace HG:=Hd (HG.out.below hb HG.out.hi);clear hb n0 n1 n2 n3 n4 HC1;by_cases hu:TE=0
   ·subst hu;have HE2:=Hd (HE.out.trans (if_neg b11));clear HE;have HE:=HE2;clear HE2;go_upto_region 10 with (fail)
    obtain ⟨RP,RB,hrr⟩:∃RP RB,Ara.roomV (s.ar.getD p []) o.len=(RP,RB):=⟨_,_,rfl⟩
    rw [hrr] at HE HRO;simp only at HE HRO;clear hrr;go_cut [9,10] (fun v9 v10 wx=>v9=.int .i64 RP∧v10=.bool RB∧Hid (Below w3 w3 wx))
    case first=>
     replace HX:=Hd (HX.out.below Br.drew);have t0:=HX.out.t.cell 0 (.pointer (some (l.M 0))) b13;have t1:=HX.out.t.cell 1 (.int .i64 (p:Int)) b13;have t7:=HX.out.t.cell 7 (.int .i64 o.len) b13;have mR:=(HM.out.below HX.out.bel).cR;have rr:=HR.out _ (HM.out.below HX.out.bel);go_region_held3 (fun w'=>w'.cell? (W 0 0)=some (.pointer (some (l.M 0)))∧w'.cell? (W 0 1)=some (p:U)∧w'.cell? (W 0 7)=some (o.len:U)∧w'.cell? (l.M 26)=some (.slice (some (l.R 0)) s.scr.length s.scr.length)∧w'.cell? (l.R p)=some (.slice a0 la c0)) (go_keep) (first|(go_at_call 107;refine (HRO.out _ HX.out.bel).mono ?_;rintro e w4 ⟨rfl,hb⟩;have HBB:=Hd hb;replace HX:=Hd (HX.out.below hb);clear hb t0 t1 t7 mR rr;have t0:=HX.out.t.cell 0 (.pointer (some (l.M 0))) b13;have t1:=HX.out.t.cell 1 (.int .i64 (p:Int)) b13;have t7:=HX.out.t.cell 7 (.int .i64 o.len) b13;have mR:=(HM.out.below HX.out.bel).cR;have rr:=HR.out _ (HM.out.below HX.out.bel)))
     all_goals
      go_wp2_with fail;go_meet;exact ⟨rfl,rfl,Hd ((Below.refl w3 w3).drew.trans HBB.out)⟩
    case rest=>
    obtain ⟨rfl,rfl,HBB⟩:=hcut;replace HX:=Hd (HX.out.below HBB.out);replace HG:=Hd (HG.out.below HBB.out HG.out.hi);clear HBB HRO;cases RB with
    |false=>
     obtain ⟨PR1,PR2⟩:=PR;obtain ⟨rfl,rfl⟩:PR1=_∧PR2=_:=by have:=HE.out.trans (if_pos rfl);exact ⟨congrArg Prod.fst this,congrArg Prod.snd this⟩
     clear HE;clear HM2A;go_wp2_with fail;refine (bad_any 3 _).mono ?_;exact cm115
    |true=>
     have HE2:=Hd (HE.out.trans (if_neg b11));clear HE;have HE:=HE2;clear HE2;obtain ⟨⟨n0,n1,n2,n3,n4⟩,⟨f0,f1,f2,f3,f4⟩,fh⟩:=Des.At.five HG.out;have HX2:Hid (Bx2 W (wc.setCell (G 0) (.int .i64 RP)) W.heap.size (W.heap.size+1) cs [I,I,J,.nilFunc]):=Hd ⟨HX.out.bel.setCell (p:=(G 0)) (by have:=HRG.out;show W.heap.size≤G;omega) _,HX.out.t.setOther (x:=⟨G,0,none⟩) (by have:=HRG.out;show W.heap.size≠G;omega) _,HX.out.r.setOther (x:=⟨G,0,none⟩) (by have:=HRG.out;show W.heap.size+1≠G;omega) _,HX.out.lo,HX.out.tr⟩;have HG2:=Hd (HG.out.set 0 (.int .i64 RP));go_upto_region 14 with (fail)
     generalize wc.setCell (G 0) (.int .i64 RP)=W4 at *;replace HG2:Hid (At W4 G [.int .i64 RP,o.len,D.fi,o.pg,.bool o.wr]):=HG2;replace HX:=HX2;clear HX2 HG n0 n1 n2 n3 n4 f0 f1 f2 f3 f4 fh;obtain ⟨TD,TF,hte⟩:∃TD TF,Ara.mapV (s.ar.getD p []) (⟨RP,o.len,D.fi,o.pg,o.wr⟩:Ar)=(TD,TF):=⟨_,_,rfl⟩
     have HC2:=Hd (HM2A.out ⟨RP,o.len,D.fi,o.pg,o.wr⟩);rw [hte] at HE HC2;simp only at HE HC2;clear hte HM2A;have HM1:=Hd (HM.out.below HX.out.bel);have HGh:Hid (G<W4.heap.size):=Hd HG2.out.hi;have HR4:Hid (W.heap.size+1<W4.heap.size):=Hd HX.out.r.hi;go_cut [5,11] (fun s5 s11 wx=>∃(X:Nat) (b:Option Addr) (c:Nat),s5=.int .i64 TF∧s11=.pointer (some (X 0))∧Hid (Nb W4 wx X [.slice b TD.length c])∧Hid (ARow W4.heap.size b c TD wx))
     case first=>
      have HX0:=HX;replace HX:=Hd (HX.out.below Br.drew);have hT:W.heap.size<W4.heap.size:=HX0.out.t.hi;have hM:l.M<W4.heap.size:=(HM.out.below HX0.out.bel).m.hi;have e1:¬W4.heap.size=W.heap.size:=b10;have e2:¬W.heap.size=W4.heap.size:=b10;have e3:¬W4.heap.size=l.M:=b10;have e4:¬l.M=W4.heap.size:=b10;have hm1:l.R<W4.heap.size:=HM1.out.hi _ (by simp [vs]);have f1a:¬W4.heap.size=l.R:=b10;have f1b:¬l.R=W4.heap.size:=b10;have hm2:G<W4.heap.size:=HGh.out;have f2a:¬W4.heap.size=G:=b10;have f2b:¬G=W4.heap.size:=b10;have yt0:=HX0.out.t.cell 0 (.pointer (some (l.M 0))) b13;have yt1:=HX0.out.t.cell 1 (.int .i64 (p:Int)) b13;have ymR:=(HM.out.below HX0.out.bel).cR;have yrr:=HR.out _ (HM.out.below HX0.out.bel);obtain ⟨⟨yn0,yn1,yn2,yn3,yn4⟩,_,_⟩:=Des.At.five HG2.out;have t0:=HX.out.t.cell 0 (.pointer (some (l.M 0))) b13;have t1:=HX.out.t.cell 1 (.int .i64 (p:Int)) b13;have mR:=(HM.out.below HX.out.bel).cR;have rr:=HR.out _ (HM.out.below HX.out.bel);obtain ⟨⟨n0,n1,n2,n3,n4⟩,_,_⟩:=Des.At.five (HG2.out.below ((Below.refl W4 W4).drew) HG2.out.hi);go_region_held3 (fun w'=>w'.cell? (W 0 0)=some (.pointer (some (l.M 0)))∧w'.cell? (W 0 1)=some (p:U)∧w'.cell? (l.M 26)=some (.slice (some (l.R 0)) s.scr.length s.scr.length)∧w'.cell? (l.R p)=some (.slice a0 la c0)∧w'.cell? (G 0)=some (.int .i64 RP)∧w'.cell? (G 1)=some (o.len:U)∧w'.cell? (G 2)=some (D.fi:U)∧w'.cell? (G 3)=some (o.pg:U)∧w'.cell? (G 4)=some (.bool o.wr)) (go_keep) (first|(go_at_call 106;refine (HC2.out _ b32).mono ?_;rintro e w5 ⟨b,c,rfl,hrow,hb⟩;have HW:=Hd hrow;clear hrow;(first|(have HA:=Hd hb;have HKB:=Hd (HG2.out.below ((Below.refl W4 W4).drew.trans hb) HG2.out.hi);replace HX:=Hd (HX.out.below hb))|(have HB:=Hd hb;have HKB:=Hd (HG2.out.below (((Below.refl W4 W4).alloc Nr _).drew.trans (hb.mono (by show W4.heap.size≤(W4.alloc _).heap.size;rw [Des.alloc_size];omega))) HG2.out.hi);obtain ⟨_,f0,fh⟩:=At.one (((At.new W4 [σ] 106).drew).below hb (by show W4.heap.size<(W4.alloc _).heap.size;rw [Des.alloc_size];omega));replace HX:=Hd ((HX.out.below (Br.alloc Nr _)).below hb)));clear hb t0 t1 mR rr n0 n1 n2 n3 n4;have t0:=HX.out.t.cell 0 (.pointer (some (l.M 0))) b13;have t1:=HX.out.t.cell 1 (.int .i64 (p:Int)) b13;have mR:=(HM.out.below HX.out.bel).cR;have rr:=HR.out _ (HM.out.below HX.out.bel);obtain ⟨⟨n0,n1,n2,n3,n4⟩,_,_⟩:=Des.At.five HKB.out))
      all_goals
       go_wp2_with fail;go_meet;first|exact ⟨_,b,c,rfl,rfl,Hd (Nb.after ((Below.refl W4 W4).drew.trans HA.out) [.slice b TD.length c] 106),Hd (ar_after HW.out _)⟩|exact ⟨_,b,c,rfl,rfl,Hd (Nb.before (T:=106) (zs:=[σ]) ((Below.refl (W4.alloc _).heap.size (W4.alloc _)).drew.trans HB.out) [.slice b TD.length c] rfl),Hd (ar_before HW.out [.slice b TD.length c])⟩
     case rest=>
     obtain ⟨X,b,c,rfl,rfl,HN,HW⟩:=hcut;replace HX:=Hd (HX.out.below HN.out.bel);clear HC2;by_cases hv:TF=0
     ·subst hv;exact cm137
     ·have hv':(TF==0)=false:=by simpa using hv
      obtain ⟨PR1,PR2⟩:=PR;obtain ⟨rfl,rfl⟩:PR1=_∧PR2=_:=by have:=HE.out.trans (if_pos hv);exact ⟨congrArg Prod.fst this,congrArg Prod.snd this⟩
      clear HE;go_wp2_with fail;refine (bad_any TF _).mono ?_;rintro e w6 ⟨rfl,hb⟩;replace HX:=Hd (HX.out.below hb);clear hb;obtain ⟨_,⟨r0,r1,r2,r3⟩,rh⟩:=At.four HX.out.r;obtain ⟨rc0,rc1,rc2,rc3⟩:=(At.four HX.out.r).1;go_wp2_with fail;generalize hwB:(((w6.setCell (W 1 0) (.int .i64 TF)).setCell (W 1 1) I).setCell (W 1 2) J).setCell (W 1 3) (.nilFunc)=w9 at *;have HP:Bx2 W w9 W.heap.size (W.heap.size+1) cs [.int .i64 TF,I,J,.nilFunc]:=by rw [←hwB];exact HX.out.putR [.int .i64 TF,I,J,.nilFunc] rfl
      skip
      clear r0 r1 r2 r3 rc0 rc1 rc2 rc3;obtain ⟨⟨q0,q1,q2,q3⟩,_,_⟩:=At.four HP.r;exact bodyPost_ret (v:=.agg #[.int .i64 TF,I,J,.nilFunc]) b60 rfl ⟨_,rfl,HP.bel,Or.inl ⟨rfl,rfl⟩⟩
   ·have hu':(TE==0)=false:=by simpa using hu
    obtain ⟨PR1,PR2⟩:=PR;obtain ⟨rfl,rfl⟩:PR1=_∧PR2=_:=by have:=HE.out.trans (if_pos hu);exact ⟨congrArg Prod.fst this,congrArg Prod.snd this⟩
    clear HE;clear HRO HM2A;go_wp2_with fail;refine (bad_any TE _).mono ?_;rintro e w5 ⟨rfl,hb⟩;replace HX:=Hd (HX.out.below hb);clear hb;obtain ⟨_,⟨r0,r1,r2,r3⟩,rh⟩:=At.four HX.out.r;obtain ⟨rc0,rc1,rc2,rc3⟩:=(At.four HX.out.r).1;go_wp2_with fail;exact cm78
 ·exact cm53):p:=h
theorem km106 {p : Prop} (h:p:=by
 have HE:Hid (mappedR s p o=if lkE s p o.fd 1≠0 then (badR (lkE s p o.fd 1),s) else if o.wr=true∧andV (Des.lookV s.d p o.fd).fl 2=0 then (badR 13,s) else if (Ara.mapV [] (⟨0,o.len,(Des.lookV s.d p o.fd).fi,o.pg,o.wr⟩:Ar)).2≠0 then (badR (Ara.mapV [] (⟨0,o.len,(Des.lookV s.d p o.fd).fi,o.pg,o.wr⟩:Ar)).2,s) else if (Ara.roomV (s.ar.getD p []) o.len).2=false then (badR 3,s) else if (Ara.mapV (s.ar.getD p []) (⟨(Ara.roomV (s.ar.getD p []) o.len).1,o.len,(Des.lookV s.d p o.fd).fi,o.pg,o.wr⟩:Ar)).2≠0 then (badR (Ara.mapV (s.ar.getD p []) (⟨(Ara.roomV (s.ar.getD p []) o.len).1,o.len,(Des.lookV s.d p o.fd).fi,o.pg,o.wr⟩:Ar)).2,s) else (⟨0,(Ara.roomV (s.ar.getD p []) o.len).1,⟨#[]⟩⟩,{s with ar:=s.ar.set p (Ara.mapV (s.ar.getD p []) (⟨(Ara.roomV (s.ar.getD p []) o.len).1,o.len,(Des.lookV s.d p o.fd).fi,o.pg,o.wr⟩:Ar)).1})):=Hd rfl;exact cm49):p:=h
theorem km115 {p : Prop} (h:p:=by
 go_wp2_with fail;generalize hwB:(((w5.setCell (W 1 0) (3:Int)).setCell (W 1 1) I).setCell (W 1 2) J).setCell (W 1 3) (.nilFunc)=w9 at *;have HP:Bx2 W w9 W.heap.size (W.heap.size+1) cs [(3:Int),I,J,.nilFunc]:=by rw [←hwB];exact HX.out.putR [(3:Int),I,J,.nilFunc] rfl
 skip
 clear r0 r1 r2 r3 rc0 rc1 rc2 rc3;obtain ⟨⟨q0,q1,q2,q3⟩,_,_⟩:=At.four HP.r;exact bodyPost_ret (v:=.agg #[(3:Int),I,J,.nilFunc]) b60 rfl ⟨_,rfl,HP.bel,Or.inl ⟨rfl,rfl⟩⟩):p:=h
theorem km53 {p : Prop} (h:p:=by
 clear HM1A HRO HM2A;exact cm1):p:=h
theorem km126 {p : Prop} (h:p:=by
 exact bodyPost_ret (v:=.agg #[(13:Int),I,J,.nilFunc]) b60 rfl ⟨_,rfl,HP.bel,Or.inl ⟨rfl,rfl⟩⟩):p:=h
theorem km137 {p : Prop} (h:p:=by
 clear HE;replace hmf:=hmf'.out;have HSC:Hid (p<s.ar.length∧p<s.scr.length∧s.scr.length≤1000):=Hd ⟨hp,hps,hn2⟩;obtain ⟨_,⟨r0,r1,r2,r3⟩,rh⟩:=At.four HX.out.r;obtain ⟨rc0,rc1,rc2,rc3⟩:=(At.four HX.out.r).1;go_wp2_with fail;generalize hwB:(((wc.setCell (W 1 0) I).setCell (W 1 1) RP).setCell (W 1 2) J).setCell (W 1 3) (.func (.func 108) #[] #[.pointer (some (X 0)),.pointer (some (W 0 0))])=w9 at *;have HP:Bx2 W w9 W.heap.size (W.heap.size+1) cs [I,RP,J,.func (.func 108) #[] #[.pointer (some (X 0)),.pointer (some (W 0 0))]]:=by rw [←hwB];exact HX.out.putR [I,RP,J,.func (.func 108) #[] #[.pointer (some (X 0)),.pointer (some (W 0 0))]] rfl
 skip
 have HAK:Hid (At w9 X [.slice b TD.length c]):=Hd (by rw [←hwB];exact HN.out.at'.apart (by have:=HN.out.lo;have:=HR4.out;omega) 0 [I,RP,J,.func (.func 108) #[] #[.pointer (some (X 0)),.pointer (some (W 0 0))]]);have HAW:Hid (ARow 0 b c TD w9):=Hd (by rw [←hwB];exact arow_sets (Ara.ARow.mono HW.out (Nat.zero_le _)) [I,RP,J,.func (.func 108) #[] #[.pointer (some (X 0)),.pointer (some (W 0 0))]] (fun q hq=>by have:=arow_lo HW.out q hq;have:=HR4.out;omega));clear r0 r1 r2 r3 rc0 rc1 rc2 rc3;obtain ⟨⟨q0,q1,q2,q3⟩,_,_⟩:=At.four HP.r;exact bodyPost_ret (v:=.agg #[I,RP,J,.func (.func 108) #[] #[.pointer (some (X 0)),.pointer (some (W 0 0))]]) b60 rfl ⟨_,rfl,HP.bel,Or.inr ⟨108,_,rfl,fun _ _=>rfl,fun W2' hf2=>clo108 B l s p o x b c TD X W.heap.size W2' (hf2.mm HP.bel) HSC.out.1 HSC.out.2.1 HSC.out.2.2 b33 (hf2.at HAK.out (by first|omega|(have:=HN.out.lo;have:=HR4.out;omega)|(have:=HR1.out;omega))) (hf2.row HAW.out (fun q hq=>by have:=arow_lo HW.out q hq;first|(have:=HR4.out;omega)|(have:=HR1.out;omega))) (fun q hq hm=>by have:=HM.out.hix _ hm;have:=arow_lo HW.out q hq;have:=HR4.out;omega)⟩⟩):p:=h
end Agg3
open Agg3 in
set_option maxHeartbeats 8000000 in
theorem mapped_any (B:Nat) (l:Ly) (s:St) (p:Nat) (o:Opr) (x:Ev) (W:World) (h:Mm B W l s) (hr:Des.Rt s.d) (hn:s.fs.length≤1000) (hp:p<s.ar.length) (hps:p<s.scr.length) (hn2:s.scr.length≤1000) (hal:(s.ar.getD p []).length≤100):
 Calls Tryz.prog 73 #[stepV l.M p o x] W (PlanP B W l s (mappedR s p o).1 (mappedR s p o).2):=by
 exact cm88
end Go.Proofs.YtimhaidiclbnhaaGreat.Ver
namespace Go.Proofs.YtimhaidiclbnhaaGreat.Con
def mkN (n:Nat) (f:Nat→UInt8):ByteArray:=⟨((List.range n).map f).toArray⟩
theorem mkN_size (n:Nat) (f:Nat→UInt8):(mkN n f).size=n:=by rw [←size_list];simp [mkN]
theorem bat_mkN (n:Nat) (f:Nat→UInt8) (i:Nat):bat (mkN n f) i=if i<n then f i else 0:=by
 by_cases h:i<n
 ·rw [if_pos h];simp [bat,mkN,List.getD,h]
 ·rw [if_neg h];exact bat_out (by rw [mkN_size];omega)
structure RowN (w0:World) (b n:Nat) (f:Nat→UInt8) (wr:World):Prop where
 bel:Below w0 w0 wr
 lo:w0.heap.size≤b
 cell:∀j,j<n→wr.cell? (b j)=some (.int .u8 ((f j).toNat:Int))
 fz:∀j,j<n→wr.frozen? (b j)=false
theorem RowN.congr {w0 wr:World} {b n:Nat} {f g:Nat→UInt8} (h:RowN w0 b n f wr) (hf:∀j,j<n→f j=g j):RowN w0 b n g wr:=
 ⟨h.bel,h.lo,fun j hj=>by rw [←hf j hj];exact h.cell j hj,h.fz⟩
theorem RowN.set {w0 wr:World} {b n:Nat} {f:Nat→UInt8} (h:RowN w0 b n f wr) (k:Nat) (x:UInt8):RowN w0 b n (fun j=>if j=k then x else f j) (wr.setCell (b k) (.int .u8 (x.toNat:Int))):=by
 refine ⟨h.bel.setCell (p:=(b k)) h.lo _,h.lo,fun j hj=>?_,fun j hj=>by rw [World.frozen?_setCell];exact h.fz j hj⟩;by_cases e:j=k
 ·subst e;rw [World.cell?_setCell_same _ _ _ (h.cell j hj),if_pos rfl]
 ·rw [World.cell?_setCell_other _ _ _ _ (by intro h;exact e (by cases h;rfl)),h.cell j hj,if_neg e]
theorem RowN.conv {w0 wr:World} {b n:Nat} {f:Nat→UInt8} (h:RowN w0 b n f wr) (cap:Nat):(convert 68 9 (.slice (some (b 0)) n cap)).run Tryz.prog wr=.ok (.string (mkN n f)) wr:=by
 refine conv_bytes wr b n cap ((List.range n).map f) b11 ?_;intro j hj;have hj':j<n:=by simpa using hj
 rw [h.cell j hj'];simp
theorem RowN.start (w:World) (s:ByteArray) (C:Nat) (lo hi:Nat) (hm:s.size≤lo):RowN w w.heap.size s.size (bat s) (w.alloc (.cells (bytesRow s C) 5 (lo,hi))):=by
 refine ⟨Br.alloc Nr _,Nat.le_refl _,fun j hj=>?_,fun j hj=>?_⟩
 ·rw [World.cell?_alloc_mark];have h2:j<s.data.size:=hj;have h3:s.data[j]? =some s.data[j]:=Array.getElem?_eq_getElem h2;simp [bytesRow,Array.getElem?_append,h3,bat,List.getD,hj]
 ·rw [World.frozen?_alloc_mark];simp;omega
def holed (s:ByteArray) (o k j:Nat):UInt8:=if o≤j∧j<k then 0 else bat s j
theorem holed_end (s:ByteArray) (o n k:Nat) (hs:¬longB s=true) (hb:¬(badB (o:Int)=true∨(n:Int)<0)) (hk:o≤k) (hkn:k-o≤n) (hks:k≤max s.size o) (hend:s.size≤k∨n≤k-o):punchV s (o:Int) (n:Int)=(mkN s.size (holed s o k),0):=by
 unfold punchV;rw [if_neg hs,if_neg hb];by_cases hz:min (n:Int) ((s.size:Int)-(o:Int))≤0
 ·rw [if_pos hz];congr 1
  apply bat_ext
  ·rw [mkN_size]
  ·intro i hi;rw [bat_mkN,if_pos hi];unfold holed;rw [if_neg b10]
 ·rw [if_neg hz];congr 1
  have e1:((o:Int)).toNat=o:=b10;rw [e1];obtain ⟨r,hr⟩:=Int.eq_ofNat_of_zero_le (show 0≤min (n:Int) ((s.size:Int)-(o:Int)) by omega);have hr2:(min (n:Int) ((s.size:Int)-(o:Int))).toNat=r:=b10;rw [hr2];apply bat_ext
  ·rw [putS_size,mkN_size,sizedS_size];omega
  ·intro i hi;rw [putS_size,sizedS_size] at hi;have hin:i<s.size:=b10;rw [bat_put,bat_mkN,if_pos hin,sizedS_size,bat_sized];have hz0:∀j,bat ⟨#[]⟩ j=0:=fun j=>bat_out (by show 0≤j;omega);unfold holed;by_cases c:o≤i∧i<o+r
   ·have c2:o≤i∧i<k:=⟨c.1,by omega⟩
    rw [if_pos c,if_pos c2,hz0];simp
   ·rw [if_neg c,if_neg b10]
set_option maxHeartbeats 4000000 in
theorem punchR_any (s:ByteArray) (off n:Int) (w:World) (hs:s.size≤maxLen) (hn9:n≤9223372036854775807):
 Calls Tryz.prog 60 #[.string s,off,n] w (RetW (.tuple #[.string (punchV s off n).1,(punchV s off n).2]) w):=by
 unfold maxLen at hs;by_cases hl:longB s=true
 ·have HR:Hid (punchV s off n=(s,1)):=by unfold Hid punchV;rw [if_pos hl]
  have h1:(128:Int)<(s.size:Int):=by rw [longB_iff] at hl;omega
  clear hl;go_enter Tryz.func60,Tryz.ntmps60;go_wp2_with fail;go_ret2;rw [HR.out];exact ⟨rfl,Below.refl _ _⟩
 ·have h1:(s.size:Int)≤128:=by rw [longB_iff] at hl;omega
  by_cases hb:badB off=true∨n<0
  ·have HR:Hid (punchV s off n=(s,2)):=by unfold Hid punchV;rw [if_neg hl,if_pos hb]
   have HB:Hid ((off<0∨128<off)∨n<0):=by rw [badB_iff] at hb;exact hb
   clear hl hb;go_enter Tryz.func60,Tryz.ntmps60;exact cl60
  ·have hof:¬((off<0∨128<off)∨n<0):=by rw [←badB_iff];exact hb
   obtain ⟨o,rfl⟩:=Int.eq_ofNat_of_zero_le (show 0≤off by omega);obtain ⟨m,rfl⟩:=Int.eq_ofNat_of_zero_le (show 0≤n by omega);have ho:(o:Int)≤128:=b10;have hm0:(0:Int)≤(m:Int):=b10;have HE:=Hd (fun k=>holed_end s o m k hl hb);have hconv:=fun (w:World)=>run_bytes_of_string (P:=Tryz.prog) w 9 68 5 s Tryz.underlying9 Tryz.underlying68 Tryz.underlying5;have HROW:Hid (∀C,s.size≤(bytesRow s C).size):=by
    intro C;have:s.data.size=s.size:=rfl;simp [bytesRow,this]
   clear hl hb hof;go_enter Tryz.func60,Tryz.ntmps60;go_wp2_with fail;have hge:=grownCap_ge w s.size 0 5;have hle:=grownCap_le_maxLen w s.size 0 5 b17;have hst0:=RowN.start w s (grownCap w s.size 0 5) (bytesRow s (grownCap w s.size 0 5)).size ((bytesRow s (grownCap w s.size 0 5)).size+1) (HROW.out _);have hst:RowN w w.heap.size s.size (bat s) (w.alloc (.cells (bytesRow s (grownCap w s.size 0 5)) 5 ((bytesRow s (grownCap w s.size 0 5)).size,(bytesRow s (grownCap w s.size 0 5)).size+1))).drew:=⟨hst0.bel.drew,hst0.lo,hst0.cell,hst0.fz⟩
   clear hconv hst0 HROW;generalize (w.alloc (.cells (bytesRow s (grownCap w s.size 0 5)) 5 ((bytesRow s (grownCap w s.size 0 5)).size,(bytesRow s (grownCap w s.size 0 5)).size+1))).drew=W at hst ⊢;generalize grownCap w s.size 0 5=C at *;unfold maxLen at hle;have HST:=Hd hst;clear hst;go_loopw [9] (fun i wr=>∃k:Nat,o≤k∧k-o≤m∧k≤max s.size o∧i=.int .i64 k∧RowN w w.heap.size s.size (holed s o k) wr) (fun i _=>300-(intOf i).toNat)
   case atStart=>exact ⟨o,Nat.le_refl _,by omega,by omega,rfl,HST.out.congr (fun j hj=>by unfold holed;rw [if_neg b10])⟩
   case round=>
    clear HST;obtain ⟨k,k1,k2,k3,rfl,hi⟩:=hrel;by_cases hc1:k<s.size
    ·by_cases hc2:k-o<m
     ·have hc:=hi.cell k hc1;have hz:=hi.fz k hc1;have h3:(k:Int)-(o:Int)<(m:Int):=b10;have h4:k<C:=b10;go_wp2_with fail;go_roundw
      case rel => exact ⟨k + 1, by omega, by omega, by omega, by go_num, (hi.set k 0).congr (fun j hj=>by
       unfold holed;by_cases e:j=k
       ·subst e;rw [if_pos rfl,if_pos ⟨by omega,by omega⟩]
       ·rw [if_neg e];by_cases e2:o≤j∧j<k
        ·have e3:o≤j∧j<k+1:=⟨e2.1,by omega⟩
         rw [if_pos e2,if_pos e3]
        ·have e3:¬(o≤j∧j<k+1):=b10;rw [if_neg e2,if_neg e3])⟩
      case measure=>simp [intOf];omega
     ·have HR:=Hd (HE.out k k1 k2 k3 (Or.inr b10));have hcv:=hi.conv C;have h3:(m:Int)≤(k:Int)-(o:Int):=b10;go_wp2_with fail;go_ret2;rw [HR.out];exact ⟨rfl,hi.bel⟩
    ·have HR:=Hd (HE.out k k1 k2 k3 (Or.inl b10));have hcv:=hi.conv C;have h3:(s.size:Int)≤(k:Int):=b10;go_wp2_with fail;go_ret2;rw [HR.out];exact ⟨rfl,hi.bel⟩
end Go.Proofs.YtimhaidiclbnhaaGreat.Con
