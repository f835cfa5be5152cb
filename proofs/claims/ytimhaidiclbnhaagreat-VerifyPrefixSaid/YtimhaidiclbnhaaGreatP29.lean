import Derived.Test.YtimhaidiclbnhaaGreatP25
import Derived.Test.YtimhaidiclbnhaaGreatP26
set_option linter.unusedSimpArgs false
set_option linter.unusedVariables false
set_option maxRecDepth 100000
open Go.ChangeShapes Go.WideShapes Go.ChangeAt Go.RowKit
namespace Go.Proofs.YtimhaidiclbnhaaGreat.Ver
open Des (Dv De Dn DIn DBlk DAns Vi At RowOf ints DSz)
open Ara (Ar ARow)
open Con (StrRow)
def adA (s:St) (p:Nat) (o:Opr):Ar:=if o.off<0 then Ara.Ar.zero else Ara.optA (Ara.findV (s.ar.getD p []) ((o.off.toNat/16:Nat):Int))
def adN (s:St) (p:Nat) (o:Opr):Int:=if o.off<0 then 0 else ((adA s p o).pg+((o.off.toNat/16:Nat):Int)-(adA s p o).st)*16+((o.off.toNat%16:Nat):Int)
def adB (s:St) (p:Nat) (o:Opr):Bool:=if o.off<0 then false else (Ara.findV (s.ar.getD p []) ((o.off.toNat/16:Nat):Int)).isSome
namespace A4ph
theorem km23 {p : Prop} (h:p:=by
 have hm1:l.R<W1.heap.size:=HM1.out.hi _ (by simp [vs]);have f1a:¬W1.heap.size=l.R:=b10;have f1b:¬l.R=W1.heap.size:=b10;have yt0:=HX0.out.t.cell 0 (.pointer (some (l.M 0))) b13;have yt1:=HX0.out.t.cell 1 (.int .i64 (p:Int)) b13;have ymR:=(HM.out.below HX0.out.bel).cR;have yrr:=HR.out _ (HM.out.below HX0.out.bel);have t0:=HX.out.t.cell 0 (.pointer (some (l.M 0))) b13;have t1:=HX.out.t.cell 1 (.int .i64 (p:Int)) b13;have mR:=(HM.out.below HX.out.bel).cR;have rr:=HR.out _ (HM.out.below HX.out.bel);go_region_held3 (fun w'=>w'.cell? (W 0 0)=some (.pointer (some (l.M 0)))∧w'.cell? (W 0 1)=some (p:U)∧w'.cell? (l.M 26)=some (.slice (some (l.R 0)) s.scr.length s.scr.length)∧w'.cell? (l.R p)=some (.slice a0 la c0)) (go_keep) (first|(go_at_call 137;refine (HC.out _ b32).mono ?_;rintro e w2 ⟨rfl,hb⟩;(first|(have HA:=Hd hb;replace HX:=Hd (HX.out.below hb))|(have HB:=Hd hb;obtain ⟨_,⟨f0,f1,f2,f3,f4⟩,fh⟩:=Des.At.five (((At.new W1 [I,I,I,I,.bool false] 139).drew).below hb b38);replace HX:=Hd ((HX.out.below (Br.alloc Nr _)).below hb)));clear hb t0 t1 mR rr;have t0:=HX.out.t.cell 0 (.pointer (some (l.M 0))) b13;have t1:=HX.out.t.cell 1 (.int .i64 (p:Int)) b13;have mR:=(HM.out.below HX.out.bel).cR;have rr:=HR.out _ (HM.out.below HX.out.bel)))
 all_goals
  go_wp2_with fail;go_meet;first|exact ⟨_,rfl,rfl,rfl,Hd (Nb.after ((Below.refl W1 W1).drew.trans HA.out) [a.st,a.cn,a.fi,a.pg,.bool a.wr] 139)⟩|exact ⟨_,rfl,rfl,rfl,Hd (Nb.before (T:=139) (zs:=[I,I,I,I,.bool false]) ((Below.refl (W1.alloc _).heap.size (W1.alloc _)).drew.trans HB.out) [a.st,a.cn,a.fi,a.pg,.bool a.wr] rfl)⟩):p:=h
theorem km106 {p : Prop} (h:p:=by
 have HM:=Hd h;have HX:=Hd (Bx2.start W (stepC l.M (p:Int) o x) [I,I,I,I,.bool false] 122 139);unfold stepV;obtain ⟨cs,hcs⟩:∃cs,cs=stepC l.M (p:Int) o x:=⟨_,rfl⟩
 have HCS:=Hd hcs;rw [←hcs] at HX ⊢;have hpI:(p:Int)<(s.scr.length:Int):=b10;have hnI:(s.scr.length:Int)≤1000:=b10;clear hcs h hsl;by_cases hneg:o.off<0
 ·have e1:adA s p o=Ara.Ar.zero:=by unfold adA;rw [if_pos hneg]
  have e2:adN s p o=0:=by unfold adN;rw [if_pos hneg]
  have e3:adB s p o=false:=by unfold adB;rw [if_pos hneg]
  rw [e1,e2,e3];clear e1 e2 e3;go_enter Tryz.func111,Tryz.ntmps111;go_upto_region 1 with (fail)
  generalize World.alloc _ (Obj.cells #[I,I,I,I,.bool false] 139)=W1 at *;have t6:=HX.out.t.cell 6 (.int .i64 o.off) b13;obtain ⟨⟨rc0,rc1,rc2,rc3,rc4⟩,⟨r0,r1,r2,r3,r4⟩,rh⟩:=Des.At.five HX.out.r;go_wp2_with fail;generalize hwB:(((((W1.setCell (W 1 0) I).setCell (W 1 1) I).setCell (W 1 2) I).setCell (W 1 3) I).setCell (W 1 4) (.bool false))=w9 at *;have HP:Bx2 W w9 W.heap.size (W.heap.size+1) cs [I,I,I,I,.bool false]:=by rw [←hwB];exact HX.out.putR [I,I,I,I,.bool false] rfl
  obtain ⟨⟨q0,q1,q2,q3,q4⟩,_,_⟩:=Des.At.five HP.r;exact bodyPost_ret (v:=.tuple #[.agg #[I,I,I,I,.bool false],I,.bool false]) (by simp [results,Tryz.results111,go_sem,q0,q1,q2,q3,q4]) rfl (RetW.mk rfl HP.bel)
 ·obtain ⟨v,hv⟩:∃v:Nat,o.off=(v:Int):=⟨o.off.toNat,by omega⟩
  have e1:adA s p o=Ara.optA (Ara.findV (s.ar.getD p []) ((v/16:Nat):Int)):=by unfold adA;rw [if_neg hneg,hv,Int.toNat_natCast]
  have e2:adN s p o=((adA s p o).pg+((v/16:Nat):Int)-(adA s p o).st)*16+((v%16:Nat):Int):=by unfold adN;rw [if_neg hneg,hv,Int.toNat_natCast]
  have e3:adB s p o=(Ara.findV (s.ar.getD p []) ((v/16:Nat):Int)).isSome:=by unfold adB;rw [if_neg hneg,hv,Int.toNat_natCast]
  rw [e2,e3,e1];have HOF:=Hd hv;obtain ⟨b1,b2,b3,b4⟩:=Ara.find_bound (l:=s.ar.getD p []) (p:=((v/16:Nat):Int));replace HC:=Hd (HC.out ((v/16:Nat):Int));have hv1:v≤1000000:=b10;clear e1 e2 e3 hneg hv hoff;generalize Ara.optA (Ara.findV (s.ar.getD p []) ((v/16:Nat):Int))=a at *;generalize (Ara.findV (s.ar.getD p []) ((v/16:Nat):Int)).isSome=fb at *;generalize (s.ar.getD p []).length=la at *;have hc1:((v/16:Nat):Int)=(v:Int)/16:=Int.natCast_ediv v 16;have hc2:((v%16:Nat):Int)=(v:Int)%16:=Int.natCast_emod v 16;rw [hc1] at HC;rw [hc1,hc2];have hq0:0≤(v:Int)/16∧(v:Int)/16≤1000000:=b10;have hr0:0≤(v:Int)%16∧(v:Int)%16<16:=b10;clear hc1 hc2;go_enter Tryz.func111,Tryz.ntmps111;go_upto_region 1 with (fail)
  generalize World.alloc _ (Obj.cells #[I,I,I,I,.bool false] 139)=W1 at *;have t6:=HX.out.t.cell 6 (.int .i64 (v:Int)) b34;have hv0:¬(v:Int)<0:=b10;go_upto_region 4 with (fail)
  obtain ⟨hq0,hq1⟩:=hq0;obtain ⟨hr0,hr1⟩:=hr0;have HDQ:=Hd hv1;generalize (v:Int)/16=q at *;have HM1:=Hd (HM.out.below HX.out.bel);have HR1:Hid (W.heap.size+1<W1.heap.size):=Hd HX.out.r.hi;clear t6;go_cut [5,6,7] (fun s5 s6 s7 wx=>∃K,s5=.int .i64 q∧s6=.pointer (some ⟨K,0,none⟩)∧s7=.bool fb∧Hid (Nb W1 wx K [a.st,a.cn,a.fi,a.pg,.bool a.wr]))
  case first=>
   exact cm23
  case rest=>
  obtain ⟨K,rfl,rfl,rfl,HN⟩:=hcut;replace HX:=Hd (HX.out.below HN.out.bel);clear HC;have HK:=Hd HN.out.at';have t6:=HX.out.t.cell 6 (.int .i64 (v:Int)) b34;obtain ⟨⟨rc0,rc1,rc2,rc3,rc4⟩,⟨r0,r1,r2,r3,r4⟩,rh⟩:=Des.At.five HX.out.r;obtain ⟨⟨n0,n1,n2,n3,n4⟩,_,nh⟩:=Des.At.five HK.out;have hk1:¬K=W.heap.size+1:=by have:=HN.out.lo;have:=HR1.out;omega
  have hk2:¬W.heap.size+1=K:=b10;have hk3:¬K=W.heap.size:=by have:=HN.out.lo;have:=HR1.out;omega
  have hk4:¬W.heap.size=K:=b10;have w1:wrap64 (a.pg+q)=a.pg+q:=IntWalk.wrap64_in _ b10;have w2:wrap64 (a.pg+q-a.st)=a.pg+q-a.st:=IntWalk.wrap64_in _ b10;have w3:wrap64 ((a.pg+q-a.st)*16)=(a.pg+q-a.st)*16:=IntWalk.wrap64_in _ b10;have w4:wrap64 ((a.pg+q-a.st)*16+(v:Int)%16)=(a.pg+q-a.st)*16+(v:Int)%16:=IntWalk.wrap64_in _ b10;go_wp2_with fail;go_region;go_wp2_with fail;generalize hwB:World.drew _=w9 at *;have HP:Bx2 W w9 W.heap.size (W.heap.size+1) cs [a.st,a.cn,a.fi,a.pg,.bool a.wr]:=by rw [←hwB];exact (HX.out.putR [a.st,a.cn,a.fi,a.pg,.bool a.wr] rfl).below Br.drew
  clear hwB r0 r1 r2 r3 r4 n0 n1 n2 n3 n4 rc0 rc1 rc2 rc3 rc4;obtain ⟨⟨q0,q1,q2,q3,q4⟩,_,_⟩:=Des.At.five HP.r;exact bodyPost_ret (v:=.tuple #[.agg #[a.st,a.cn,a.fi,a.pg,.bool a.wr],.int .i64 ((a.pg+q-a.st)*16+(v:Int)%16),.bool fb]) (by simp [results,Tryz.results111,go_sem,q0,q1,q2,q3,q4]) rfl (RetW.mk rfl HP.bel)):p:=h
end A4ph
open A4ph in
set_option maxHeartbeats 8000000 in
theorem address_any (B:Nat) (l:Ly) (s:St) (p:Nat) (o:Opr) (x:Ev) (W:World) (h:Mm B W l s) (hp:p<s.ar.length) (hps:p<s.scr.length) (hn:s.scr.length≤1000) (hal:(s.ar.getD p []).length≤100) (hoff:o.off≤1000000):
 Calls Tryz.prog 111 #[stepV l.M (p:Int) o x] W (RetW (.tuple #[.agg #[(adA s p o).st,(adA s p o).cn,(adA s p o).fi,(adA s p o).pg,.bool (adA s p o).wr],(adN s p o),.bool (adB s p o)]) W):=by
 obtain ⟨a0,c0,hsl⟩:∃a c,l.ar.getD p Sl.nil=⟨a,c⟩:=⟨_,_,rfl⟩
 have HC:Hid (∀(q:Int) W',Below W W W'→Calls Tryz.prog 137 #[.slice a0 (s.ar.getD p []).length c0,q] W' (RetW (.tuple #[.agg #[(Ara.optA (Ara.findV (s.ar.getD p []) q)).st,(Ara.optA (Ara.findV (s.ar.getD p []) q)).cn,(Ara.optA (Ara.findV (s.ar.getD p []) q)).fi,(Ara.optA (Ara.findV (s.ar.getD p []) q)).pg,.bool (Ara.optA (Ara.findV (s.ar.getD p []) q)).wr],.bool (Ara.findV (s.ar.getD p []) q).isSome]) W')):=Hd fun q W' hb=>by
  have h1:=(h.below hb).im.ra p hp;rw [hsl] at h1;exact Ara.find_any 0 a0 (s.ar.getD p []) c0 q W' h1.1 hal
 exact cm106
theorem no_bytes' {d:ByteArray} (h:d.size=0):d=⟨#[]⟩:=by
 cases d with|mk a=>simp [ByteArray.size] at h;rw [h]
theorem some_bytes' {d:ByteArray} (h:¬d.size=0):¬d.toList=[]∧d.toList.isEmpty=false:=by
 have h1 : ¬ d.toList = [] := fun e => h (by
  rw [ByteArray.toList_eq] at e;have:d.data.toList.length=0:=by rw [e];rfl
  rw [Array.length_toList] at this;exact this)
 exact ⟨h1,by cases h9:d.toList with|nil=>exact absurd h9 h1|cons a b=>rfl⟩
def loadR (s:St) (p:Nat) (o:Opr):Res×St:=
 if adB s p o=false then (badR 4,s) else if (Con.readV (s.fs.getD (adA s p o).fi.toNat ⟨#[]⟩) (adN s p o) 1).1.size=0 then (badR 12,s) else (⟨0,1,(Con.readV (s.fs.getD (adA s p o).fi.toNat ⟨#[]⟩) (adN s p o) 1).1⟩,s)
namespace Ank5
theorem km4 {p : Prop} (h:p:=by
 exact cm43):p:=h
theorem km22 {p : Prop} (h:p:=by
 exact cm104):p:=h
theorem km43 {p : Prop} (h:p:=by
 exact bodyPost_ret (v:=.agg #[(4:Int),I,J,.nilFunc]) b111 rfl ⟨_,rfl,HP.bel,Or.inl ⟨rfl,rfl⟩⟩):p:=h
theorem km60 {p : Prop} (h:p:=by
 exact bodyPost_ret (v:=.agg #[(12:Int),I,J,.nilFunc]) b111 rfl ⟨_,rfl,HP.bel,Or.inl ⟨rfl,rfl⟩⟩):p:=h
theorem km67 {p : Prop} (h:p:=by
 unfold stepV at HAD ⊢;obtain ⟨cs,hcs⟩:∃cs,cs=stepC l.M (p:Int) o x:=⟨_,rfl⟩
 have HCS:=Hd hcs;rw [←hcs] at HX HAD ⊢;clear hcs h;have HAF:=Hd haf;clear haf;generalize loadR s p o=PR at *;generalize adA s p o=A at *;generalize adN s p o=an at *;generalize adB s p o=ab at *;go_enter Tryz.func75,Tryz.ntmps75;exact cm22):p:=h
theorem km80 {p : Prop} (h:p:=by
 have HCB:=Hd (fun W'=>HCA.out sd an W' hsd);clear HCA HAF hf hsd;obtain ⟨TD,TE,hte⟩:∃TD TE,Con.readV sd an 1=(TD,TE):=⟨_,_,rfl⟩
 rw [hte] at HE HCB;simp only at HE HCB;clear hte;have hfI:(f:Int)<(s.fs.length:Int):=b10;have hnI:(s.fs.length:Int)≤1000:=b10;go_upto_region 4 with (fail)
 go_cut [6] (fun v wx=>v=.string TD∧Hid (Below W1 W1 wx))
 case first=>
  replace HX:=Hd (HX.out.below Br.drew);replace HK:=Hd (Des.At.drew HK.out);have t0:=HX.out.t.cell 0 (.pointer (some (l.M 0))) b13;have mF:=(HM.out.below HX.out.bel).cF;have a:=(HM.out.below HX.out.bel).f.cell f (.string sd) HFC.out;have d2:=HK.out.cell 2 (.int .i64 (f:Int)) b18;go_region_held3 (fun w'=>w'.cell? (W 0 0)=some (.pointer (some (l.M 0)))∧w'.cell? (l.M 21)=some (.slice (some (l.F 0)) s.fs.length s.fs.length)∧w'.cell? (l.F f)=some (.string sd)∧w'.cell? (K 2)=some (f:U)) (go_keep) (first|(go_at_call 92;refine (HCB.out _).mono ?_;rintro e w3 ⟨rfl,rfl⟩))
  all_goals
   go_wp2_with fail;go_meet;exact ⟨rfl,Hd (Below.refl W1 W1).drew⟩
 case rest=>
 obtain ⟨rfl,HBB⟩:=hcut;replace HX:=Hd (HX.out.below HBB.out);clear HBB HCB;by_cases hd:TD.size=0
 ·have hd0:=no_bytes' hd;obtain ⟨PR1,PR2⟩:=PR;obtain ⟨rfl,rfl⟩:PR1=_∧PR2=_:=by have:=HE.out.trans (if_pos hd);exact ⟨congrArg Prod.fst this,congrArg Prod.snd this⟩
  clear HE;subst hd0;clear hd;exact cm60
 ·obtain ⟨hd1,hd3⟩:=some_bytes' hd;have hd2:¬TD=⟨#[]⟩:=fun e=>hd (by rw [e];rfl);obtain ⟨PR1,PR2⟩:=PR;obtain ⟨rfl,rfl⟩:PR1=_∧PR2=_:=by have:=HE.out.trans (if_neg hd);exact ⟨congrArg Prod.fst this,congrArg Prod.snd this⟩
  clear HE;clear hd;obtain ⟨_,⟨r0,r1,r2,r3⟩,rh⟩:=At.four HX.out.r;obtain ⟨rc0,rc1,rc2,rc3⟩:=(At.four HX.out.r).1;go_wp2_with fail;generalize hwB:(((wc.setCell (W 1 0) I).setCell (W 1 1) (1:Int)).setCell (W 1 2) (.string TD)).setCell (W 1 3) (.nilFunc)=w9 at *;have HP:Bx2 W w9 W.heap.size (W.heap.size+1) cs [I,(1:Int),.string TD,.nilFunc]:=by rw [←hwB];exact HX.out.putR [I,(1:Int),.string TD,.nilFunc] rfl
  skip
  clear r0 r1 r2 r3 rc0 rc1 rc2 rc3;obtain ⟨⟨q0,q1,q2,q3⟩,_,_⟩:=At.four HP.r;exact bodyPost_ret (v:=.agg #[I,(1:Int),.string TD,.nilFunc]) b111 rfl ⟨_,rfl,HP.bel,Or.inl ⟨rfl,rfl⟩⟩):p:=h
theorem km92 {p : Prop} (h:p:=by
 have HCA:Hid (∀(sd:ByteArray) (f:Int) W',sd.size≤1000→Calls Tryz.prog 92 #[.string sd,f,(1:Int)] W' (fun e w'=>e=.returned (.tuple #[.string (Con.readV sd f 1).1,(Con.readV sd f 1).2])∧W'=w')):=Hd fun sd f W' hs=>Con.read_any sd f 1 W' b17;have HE:Hid (loadR s p o=if adB s p o=false then (badR 4,s) else if (Con.readV (s.fs.getD (adA s p o).fi.toNat ⟨#[]⟩) (adN s p o) 1).1.size=0 then (badR 12,s) else (⟨0,1,(Con.readV (s.fs.getD (adA s p o).fi.toNat ⟨#[]⟩) (adN s p o) 1).1⟩,s)):=Hd rfl;exact cm67):p:=h
theorem km104 {p : Prop} (h:p:=by
 cases ab with
 |false=>
  obtain ⟨PR1,PR2⟩:=PR;obtain ⟨rfl,rfl⟩:PR1=_∧PR2=_:=by have:=HE.out.trans (if_pos rfl);exact ⟨congrArg Prod.fst this,congrArg Prod.snd this⟩
  clear HE;go_wp2_with fail;refine (bad_any 4 _).mono ?_;exact cm4
 |true=>
  have HE2:=Hd (HE.out.trans (if_neg b11));clear HE;have HE:=HE2;clear HE2;obtain ⟨f,hf,hfn⟩:=HAF.out rfl;rw [hf,Int.toNat_natCast] at HE;have HFI:Hid (A.fi=(f:Int)):=Hd hf;exact cm80):p:=h
end Ank5
open Ank5 in
set_option maxHeartbeats 8000000 in
theorem load_any (B:Nat) (l:Ly) (s:St) (p:Nat) (o:Opr) (x:Ev) (W:World) (h:Mm B W l s) (hp:p<s.ar.length) (hps:p<s.scr.length) (hn:s.fs.length≤1000) (hn2:s.scr.length≤1000) (hal:(s.ar.getD p []).length≤100) (hoff:o.off≤1000000) (hsz:∀y,y∈s.fs→y.size≤1000) (haf:adB s p o=true→∃f:Nat,(adA s p o).fi=(f:Int)∧f<s.fs.length):
 Calls Tryz.prog 75 #[stepV l.M (p:Int) o x] W (PlanP B W l s (loadR s p o).1 (loadR s p o).2):=by
 exact cm92
def storeR (s:St) (p:Nat) (o:Opr):Res×St:=
 if adB s p o=false then (badR 4,s) else if (adA s p o).wr=false then (badR 13,s) else if (o.dat.size:Int)≠1 then (badR 2,s) else if ((s.fs.getD (adA s p o).fi.toNat ⟨#[]⟩).size:Int)≤adN s p o then (badR 12,s) else (⟨0,1,⟨#[]⟩⟩,chS s (adA s p o).fi.toNat (Con.writeV (s.fs.getD (adA s p o).fi.toNat ⟨#[]⟩) (adN s p o) o.dat).1)
namespace Am46
theorem km4 {p : Prop} (h:p:=by
 exact cm43):p:=h
theorem km22 {p : Prop} (h:p:=by
 exact cm104):p:=h
theorem km43 {p : Prop} (h:p:=by
 exact bodyPost_ret (v:=.agg #[(4:Int),I,J,.nilFunc]) b76 rfl ⟨_,rfl,HP.bel,Or.inl ⟨rfl,rfl⟩⟩):p:=h
theorem km60 {p : Prop} (h:p:=by
 exact bodyPost_ret (v:=.agg #[(12:Int),I,J,.nilFunc]) b76 rfl ⟨_,rfl,HP.bel,Or.inl ⟨rfl,rfl⟩⟩):p:=h
theorem km67 {p : Prop} (h:p:=by
 unfold stepV at HAD ⊢;obtain ⟨cs,hcs⟩:∃cs,cs=stepC l.M (p:Int) o x:=⟨_,rfl⟩
 have HCS:=Hd hcs;rw [←hcs] at HX HAD ⊢;clear hcs h;have HAF:=Hd haf;clear haf;generalize storeR s p o=PR at *;generalize adA s p o=A at *;generalize adN s p o=an at *;generalize adB s p o=ab at *;go_enter Tryz.func76,Tryz.ntmps76;exact cm22):p:=h
theorem km80 {p : Prop} (h:p:=by
 have HCB:=Hd (fun W'=>HCA.out sd an W' hsd);clear HCA HAF hf;have hdI:(sd.size:Int)≤1000:=b10;obtain ⟨TD,TE,hte⟩:∃TD TE,Con.writeV sd an o.dat=(TD,TE):=⟨_,_,rfl⟩
 rw [hte] at HE HCB;simp only at HE HCB;clear hte;have hfI:(f:Int)<(s.fs.length:Int):=b10;have hnI:(s.fs.length:Int)≤1000:=b10;go_upto_region 8 with (fail)
 clear t9 k4' h1';go_cut [30] (fun v wx=>v=.bool (decide ((sd.size:Int)≤an))∧Hid (Bx2 W wx W.heap.size (W.heap.size+1) cs [I,I,J,.nilFunc])∧Hid (At wx K [A.st,A.cn,A.fi,A.pg,.bool A.wr]))
 case first=>
  have t0:=HX.out.t.cell 0 (.pointer (some (l.M 0))) b13;have mF:=(HM.out.below HX.out.bel).cF;have a:=(HM.out.below HX.out.bel).f.cell f (.string sd) HFC.out;have d2:=HK.out.cell 2 (.int .i64 (f:Int)) b18;by_cases h2:(sd.size:Int)≤an
  ·exact cl77
  ·exact cl77
 case rest=>
 clear HX HK;obtain ⟨rfl,HX,HK⟩:=hcut;by_cases h2:(sd.size:Int)≤an
 ·have hd2:decide ((sd.size:Int)≤an)=true:=decide_eq_true h2;rw [hd2];obtain ⟨PR1,PR2⟩:=PR;obtain ⟨rfl,rfl⟩:PR1=_∧PR2=_:=by have:=HE.out.trans (if_pos h2);exact ⟨congrArg Prod.fst this,congrArg Prod.snd this⟩
  clear HE;clear h2 hd2;exact cm60
 ·have hd2:decide ((sd.size:Int)≤an)=false:=decide_eq_false h2;rw [hd2];have HE2:=Hd (HE.out.trans (if_neg h2));clear HE h2 hd2;have HE:=HE2;clear HE2;go_upto_region 10 with (fail)
  obtain ⟨W2,hW2⟩:∃W2,W2=wc:=⟨_,rfl⟩
  subst hW2;have HM1:=Hd (HM.out.below HX.out.bel);have HR2:Hid (W.heap.size+1<K∧K<W2.heap.size):=Hd ⟨HR1.out,HK.out.hi⟩;go_cut [6] (fun s6 wx=>∃O,s6=.pointer (some ⟨O,0,none⟩)∧Hid (Nb W2 wx O [.string TD]))
  case first=>
   exact cm128
  case rest=>
  obtain ⟨O,rfl,HO⟩:=hcut;replace HX:=Hd (HX.out.below HO.out.bel);replace HK:=Hd (HK.out.below HO.out.bel HK.out.hi);clear HCB;obtain ⟨PR1,PR2⟩:=PR;obtain ⟨rfl,rfl⟩:PR1=_∧PR2=_:=by have:=HE.out;exact ⟨congrArg Prod.fst this,congrArg Prod.snd this⟩
  exact cm102):p:=h
theorem km92 {p : Prop} (h:p:=by
 exact cm109):p:=h
theorem km102 {p : Prop} (h:p:=by
 generalize hwB:(((wc.setCell (W 1 0) I).setCell (W 1 1) (1:Int)).setCell (W 1 2) J).setCell (W 1 3) (.func (.func 112) #[] #[.pointer (some (W 0 0)),.pointer (some (K 0)),.pointer (some (O 0))])=w9 at *;have HP:Bx2 W w9 W.heap.size (W.heap.size+1) cs [I,(1:Int),J,.func (.func 112) #[] #[.pointer (some (W 0 0)),.pointer (some (K 0)),.pointer (some (O 0))]]:=by rw [←hwB];exact HX.out.putR [I,(1:Int),J,.func (.func 112) #[] #[.pointer (some (W 0 0)),.pointer (some (K 0)),.pointer (some (O 0))]] rfl
 skip
 have HAK:Hid (At w9 K (Ara.Ar.cells A)):=Hd (by rw [←hwB];exact HK.out.apart (by have:=HR2.out;omega) 0 [I,(1:Int),J,.func (.func 112) #[] #[.pointer (some (W 0 0)),.pointer (some (K 0)),.pointer (some (O 0))]]);have HAO:Hid (At w9 O [.string TD]):=Hd (by rw [←hwB];exact HO.out.at'.apart (by have:=HO.out.lo;have:=HR2.out;omega) 0 [I,(1:Int),J,.func (.func 112) #[] #[.pointer (some (W 0 0)),.pointer (some (K 0)),.pointer (some (O 0))]]);clear r0 r1 r2 r3 rc0 rc1 rc2 rc3;obtain ⟨⟨q0,q1,q2,q3⟩,_,_⟩:=At.four HP.r;exact bodyPost_ret (v:=.agg #[I,(1:Int),J,.func (.func 112) #[] #[.pointer (some (W 0 0)),.pointer (some (K 0)),.pointer (some (O 0))]]) b76 rfl ⟨_,rfl,HP.bel,Or.inr ⟨112,_,rfl,fun _ _=>rfl,fun W2' hf2=>clo112 B l s p o x A f TD W.heap.size K O W2' (hf2.mm HP.bel) hfn b10 hn (hl f b10) HFI.out b33 (hf2.at HAK.out b128) (hf2.at HAO.out b128)⟩⟩):p:=h
theorem km104 {p : Prop} (h:p:=by
 cases ab with
 |false=>
  obtain ⟨PR1,PR2⟩:=PR;obtain ⟨rfl,rfl⟩:PR1=_∧PR2=_:=by have:=HE.out.trans (if_pos rfl);exact ⟨congrArg Prod.fst this,congrArg Prod.snd this⟩
  clear HE;go_wp2_with fail;refine (bad_any 4 _).mono ?_;exact cm4
 |true=>
  have HE2:=Hd (HE.out.trans (if_neg b11));clear HE;have HE:=HE2;clear HE2;have k4:=HK.out.cell 4 (.bool A.wr) rfl;cases hw:A.wr with
  |false=>
   rw [hw] at HE k4;obtain ⟨PR1,PR2⟩:=PR;obtain ⟨rfl,rfl⟩:PR1=_∧PR2=_:=by have:=HE.out.trans (if_pos rfl);exact ⟨congrArg Prod.fst this,congrArg Prod.snd this⟩
   clear HE;clear hw;go_wp2_with fail;refine (bad_any 13 _).mono ?_;exact cm115
  |true=>
   rw [hw] at HE;have k4':=k4;rw [hw] at k4';clear k4 hw;have HE2:=Hd (HE.out.trans (if_neg b11));clear HE;have HE:=HE2;clear HE2;have t9:=HX.out.t.cell 9 (.string o.dat) b13;have hdJ:(o.dat.size:Int)≤1000:=b10;by_cases h1:(o.dat.size:Int)=1
   ·have HE2:=Hd (HE.out.trans (if_neg (by simp [h1])));clear HE;have HE:=HE2;clear HE2;have h1':(((o.dat.size:Nat):Int)==1)=true:=by rw [h1];rfl
    obtain ⟨f,hf,hfn⟩:=HAF.out rfl;rw [hf,Int.toNat_natCast] at HE;have HFI:Hid (A.fi=(f:Int)):=Hd hf;exact cm80
   ·have h1':((o.dat.size:Int)==1)=false:=by simpa using h1
    obtain ⟨PR1,PR2⟩:=PR;obtain ⟨rfl,rfl⟩:PR1=_∧PR2=_:=by have:=HE.out.trans (if_pos h1);exact ⟨congrArg Prod.fst this,congrArg Prod.snd this⟩
    clear HE;go_wp2_with fail;refine (bad_any 2 _).mono ?_;rintro e w5 ⟨rfl,hb⟩;replace HX:=Hd (HX.out.below hb);clear hb;obtain ⟨_,⟨r0,r1,r2,r3⟩,rh⟩:=At.four HX.out.r;obtain ⟨rc0,rc1,rc2,rc3⟩:=(At.four HX.out.r).1;go_wp2_with fail;exact cm127):p:=h
theorem km109 {p : Prop} (h:p:=by
 have HE:Hid (storeR s p o=if adB s p o=false then (badR 4,s) else if (adA s p o).wr=false then (badR 13,s) else if (o.dat.size:Int)≠1 then (badR 2,s) else if ((s.fs.getD (adA s p o).fi.toNat ⟨#[]⟩).size:Int)≤adN s p o then (badR 12,s) else (⟨0,1,⟨#[]⟩⟩,chS s (adA s p o).fi.toNat (Con.writeV (s.fs.getD (adA s p o).fi.toNat ⟨#[]⟩) (adN s p o) o.dat).1)):=Hd rfl;exact cm67):p:=h
theorem km115 {p : Prop} (h:p:=by
 go_wp2_with fail;exact cm126):p:=h
theorem km126 {p : Prop} (h:p:=by
 exact bodyPost_ret (v:=.agg #[(13:Int),I,J,.nilFunc]) b76 rfl ⟨_,rfl,HP.bel,Or.inl ⟨rfl,rfl⟩⟩):p:=h
theorem km127 {p : Prop} (h:p:=by
 exact bodyPost_ret (v:=.agg #[(2:Int),I,J,.nilFunc]) b76 rfl ⟨_,rfl,HP.bel,Or.inl ⟨rfl,rfl⟩⟩):p:=h
theorem km128 {p : Prop} (h:p:=by
 have hm2:K<W2.heap.size:=HR2.out.2;have f2a:¬W2.heap.size=K:=b10;have f2b:¬K=W2.heap.size:=b10;have yt0:=HX0.out.t.cell 0 (.pointer (some (l.M 0))) b13;have yt9:=HX0.out.t.cell 9 (.string o.dat) b13;have ymF:=(HM.out.below HX0.out.bel).cF;have ya:=(HM.out.below HX0.out.bel).f.cell f (.string sd) HFC.out;have yd:=(HK.out).cell 2 (.int .i64 (f:Int)) b18;have t0:=HX.out.t.cell 0 (.pointer (some (l.M 0))) b13;have t9:=HX.out.t.cell 9 (.string o.dat) b13;have mF:=(HM.out.below HX.out.bel).cF;have a:=(HM.out.below HX.out.bel).f.cell f (.string sd) HFC.out;have d:=(HK.out.below ((Below.refl W2 W2).drew) HK.out.hi).cell 2 (.int .i64 (f:Int)) b18;go_region_held3 (fun w'=>w'.cell? (W 0 0)=some (.pointer (some (l.M 0)))∧w'.cell? (W 0 9)=some (.string o.dat)∧w'.cell? (l.M 21)=some (.slice (some (l.F 0)) s.fs.length s.fs.length)∧w'.cell? (l.F f)=some (.string sd)∧w'.cell? (K 2)=some (f:U)) (go_keep) (first|(go_at_call 95;refine (HCB.out _).mono ?_;rintro e w2 ⟨rfl,hb⟩;(first|(have HA:=Hd hb;have HKB:=Hd (HK.out.below ((Below.refl W2 W2).drew.trans hb) HK.out.hi);replace HX:=Hd (HX.out.below hb))|(have HB:=Hd hb;have HKB:=Hd (HK.out.below (((Below.refl W2 W2).alloc Nr _).drew.trans (hb.mono b126)) HK.out.hi);obtain ⟨_,f0,fh⟩:=At.one (((At.new W2 [J] 9).drew).below hb b99);replace HX:=Hd ((HX.out.below (Br.alloc Nr _)).below hb)));clear hb t0 t9 mF a d;have t0:=HX.out.t.cell 0 (.pointer (some (l.M 0))) b13;have t9:=HX.out.t.cell 9 (.string o.dat) b13;have mF:=(HM.out.below HX.out.bel).cF;have a:=(HM.out.below HX.out.bel).f.cell f (.string sd) HFC.out;have d:=(HKB.out).cell 2 (.int .i64 (f:Int)) b18))
 all_goals
  go_wp2_with fail;go_meet;first|exact ⟨_,rfl,Hd (Nb.after ((Below.refl W2 W2).drew.trans HA.out) [.string TD] 9)⟩|exact ⟨_,rfl,Hd (Nb.before (T:=9) (zs:=[J]) ((Below.refl (W2.alloc _).heap.size (W2.alloc _)).drew.trans HB.out) [.string TD] rfl)⟩):p:=h
end Am46
open Am46 in
set_option maxHeartbeats 8000000 in
theorem store_any (B:Nat) (l:Ly) (s:St) (p:Nat) (o:Opr) (x:Ev) (W:World) (h:Mm B W l s) (hp:p<s.ar.length) (hps:p<s.scr.length) (hn:s.fs.length≤1000) (hn2:s.scr.length≤1000) (hal:(s.ar.getD p []).length≤100) (hoff:o.off≤1000000) (hsz:∀y,y∈s.fs→y.size≤1000) (haf:adB s p o=true→∃f:Nat,(adA s p o).fi=(f:Int)∧f<s.fs.length) (hfh:s.h.length=s.fs.length) (hl:∀i,i<s.h.length→(s.h.getD i ([],0)).1.length≤10000) (hdat:o.dat.size≤1000):
 Calls Tryz.prog 76 #[stepV l.M (p:Int) o x] W (PlanP B W l s (storeR s p o).1 (storeR s p o).2):=by
 exact cm92
end Go.Proofs.YtimhaidiclbnhaaGreat.Ver
namespace Go.Proofs.YtimhaidiclbnhaaGreat.Ara
theorem roomK_ahead {l:List Ar} {n:Int} {j:Nat} (hj:j<roomK l n):j<l.length∧fitAt l n j=false:=by
 unfold roomK at hj;cases hf:(List.range l.length).find? (fitAt l n) with
 |none=>
  rw [hf] at hj;have hj:j<l.length:=hj;refine ⟨hj,?_⟩;have:=List.find?_eq_none.1 hf j (List.mem_range.2 hj);simpa using this
 |some k=>
  rw [hf] at hj;have hj:j<k:=hj;obtain ⟨_,i,hi,hik,hb⟩:=List.find?_eq_some_iff_getElem.1 hf;have hi2:i<l.length:=by simpa using hi
  have hik2:i=k:=by simpa using hik
  subst hik2;refine ⟨by omega,?_⟩;have:=hb j hj;simpa using this
theorem room_busy {l:List Ar} {n q:Int} (h0:0≤q) (m:Nat) (hm:m≤roomK l n) (hq:q<lastAt l m):∃x∈l,x.st<q+n∧q<x.st+x.cn:=by
 induction m with
 |zero=>unfold lastAt at hq;simp at hq;omega
 |succ m ih=>
  obtain ⟨hml,hft⟩:=roomK_ahead (l:=l) (n:=n) (j:=m) b10;by_cases hlt:q<lastAt l m
  ·exact ih b10 hlt
  ·rw [lastAt_succ] at hq;unfold fitAt at hft;have hft:=of_decide_eq_false hft;refine ⟨l.getD m Ar.zero,by rw [getD_get hml];exact List.getElem_mem hml,by omega,hq⟩
def anyTo (l:List Ar) (q:Int) (m:Nat):Bool:=(List.range m).any fun t=>(findV l (q+t)).isSome
theorem anyTo_succ (l:List Ar) (q:Int) (m:Nat):anyTo l q (m+1)=(anyTo l q m||(findV l (q+m)).isSome):=by
 unfold anyTo;rw [List.range_succ,List.any_append];simp
theorem anyTo_hit {l:List Ar} {q n:Int} (h:checkV l=true) (hn:1≤n) {x:Ar} (hx:x∈l) (h1:x.st<q+n) (h2:q<x.st+x.cn):anyTo l q n.toNat=true:=by
 have hr:=right_num ((good_of_check h).right x hx);unfold anyTo;refine List.any_eq_true.2 ⟨(max q x.st-q).toNat,List.mem_range.2 b10,?_⟩;have:findV l (q+((max q x.st-q).toNat:Int))=some x:=(find_iff h).2 ⟨hx,by unfold inB;exact decide_eq_true b10⟩;rw [this];rfl
theorem anyTo_free {l:List Ar} {q n:Int} (h:checkV l=true) (hf:Free l q n):anyTo l q n.toNat=false:=by
 unfold anyTo;refine List.any_eq_false.2 fun t ht=>?_
 have ht:=List.mem_range.1 ht;cases hl:findV l (q+(t:Int)) with
 |none=>simp
 |some x=>
  obtain ⟨hx,hi⟩:=(find_iff h).1 hl;unfold inB at hi;have hi:=of_decide_eq_true hi;exact absurd ⟨by omega,by omega⟩ (hf x hx)
theorem lastAt_nonneg {l:List Ar} (h:checkV l=true) (m:Nat) (hm:m≤l.length):0≤lastAt l m:=by
 cases m with
 |zero=>simp [lastAt]
 |succ m=>
  rw [lastAt_succ,getD_get (by omega:m<l.length)];have:=right_num ((good_of_check h).right _ (List.getElem_mem (show m<l.length from by omega)));omega
theorem roomK_le (l:List Ar) (n:Int):roomK l n≤l.length:=by
 unfold roomK;cases hf:(List.range l.length).find? (fitAt l n) with
 |none=>exact Nat.le_refl _
 |some k=>exact Nat.le_of_lt (List.mem_range.1 (List.mem_of_find?_eq_some hf))
theorem roomR_hit {l:List Ar} {n:Int} {q:Nat} (h:checkV l=true) (hn:1≤n) (hq:(q:Int)+n≤64) (hb:∀q':Nat,q'<q→anyTo l q' n.toNat=true) (hf:anyTo l q n.toNat=false):roomV l n=((q:Int),true):=by
 have h0:=lastAt_nonneg h (roomK l n) (roomK_le l n);have hle:lastAt l (roomK l n)≤q:=by
  by_cases hlt:(q:Int)<lastAt l (roomK l n)
  ·obtain ⟨x,hx,h1,h2⟩:=room_busy b10 (roomK l n) Nr hlt;rw [anyTo_hit h hn hx h1 h2] at hf;cases hf
  ·omega
 have hr:roomV l n=(lastAt l (roomK l n),true):=by
  unfold roomV;rw [if_pos ⟨h,within_of h0 hn b10⟩]
 obtain ⟨_,_,_,hfr⟩:=room_free h hr;have hfree:=anyTo_free h hfr;by_cases he:lastAt l (roomK l n)=q
 ·rw [hr,he]
 ·have:=hb (lastAt l (roomK l n)).toNat b10;rw [Int.toNat_of_nonneg h0,hfree] at this;cases this
theorem roomR_miss {l:List Ar} {n:Int} {q:Nat} (h:checkV l=true) (hq:64<(q:Int)+n) (hb:∀q':Nat,q'<q→anyTo l q' n.toNat=true):roomV l n=(0,false):=by
 cases hr:roomV l n with
 |mk p ok=>
  cases ok with
  |false=>
   unfold roomV at hr;split at hr
   ·simp at hr
   ·simp at hr;rw [hr]
  |true=>
   obtain ⟨h0,h1,h2,hfr⟩:=room_free h hr;have hfree:=anyTo_free h hfr;have:=hb p.toNat b10;rw [Int.toNat_of_nonneg h0,hfree] at this;cases this
theorem room_bad {l:List Ar} {n:Int} (h:checkV l=false∨n<1∨64<n):roomV l n=(0,false):=by
 unfold roomV;rw [if_neg ?_];rintro ⟨h1,h2⟩;have:=within_num h2;rcases h with h|h|h
 ·rw [h] at h1;cases h1
 ·omega
 ·omega
set_option maxHeartbeats 4000000 in
theorem roomR_any (B:Nat) (a:Option Addr) (l:List Ar) (cap:Nat) (n:Int) (w:World) (h:ARow B a cap l w) (hl:l.length≤100):
 Calls Tryz.prog 62 #[.slice a l.length cap,n] w (RetW (.tuple #[(roomV l n).1,.bool (roomV l n).2]) w):=by
 have HC:=Hd (checkR_any B a l cap w h hl);have HF:Hid (∀q W,Below w w W→Calls Tryz.prog 53 #[.slice a l.length cap,.int .i64 q] W (RetW (.tuple #[.agg #[(optA (findV l q)).st,(optA (findV l q)).cn,(optA (findV l q)).fi,(optA (findV l q)).pg,.bool (optA (findV l q)).wr],.bool (findV l q).isSome]) W)):=fun q W hb=>findR_any B a l cap q W (h.below hb) hl;have HBAD:=Hd (room_bad (l:=l) (n:=n));have HHIT:Hid (checkV l=true→1≤n→∀q:Nat,(q:Int)+n≤64→(∀q':Nat,q'<q→anyTo l q' n.toNat=true)→anyTo l q n.toNat=false→roomV l n=((q:Int),true)):=fun hc hn q hq hb hf=>roomR_hit hc hn hq hb hf;have HMISS:Hid (checkV l=true→∀q:Nat,64<(q:Int)+n→(∀q':Nat,q'<q→anyTo l q' n.toNat=true)→roomV l n=(0,false)):=fun hc q hq hb=>roomR_miss hc hq hb;clear h;go_enter Tryz.func62,Tryz.ntmps62;go_wp2_with fail;refine HC.out.mono ?_;rintro e w1 ⟨rfl,hb⟩;have HB:=Hd hb;clear hb HC;cases hcv:checkV l with
 |false=>
  have hv:=HBAD.out (Or.inl hcv);go_wp2_with fail;go_ret2;exact ⟨by rw [hv];rfl,HB.out⟩
 |true=>
  replace HHIT:=Hd (HHIT.out hcv);replace HMISS:=Hd (HMISS.out hcv);clear hcv;by_cases hn1:n<1
  ·have hv:=Hd (HBAD.out (Or.inr (Or.inl hn1)));go_wp2_with fail;go_ret2;exact ⟨by rw [hv.out];rfl,HB.out⟩
  ·have hn2:1≤n:=b10;by_cases hn3:64<n
   ·have hv:=Hd (HBAD.out (Or.inr (Or.inr hn3)));go_wp2_with fail;go_ret2;exact ⟨by rw [hv.out];rfl,HB.out⟩
   ·have hn4:n≤64:=b10;obtain ⟨m,rfl⟩:=Int.eq_ofNat_of_zero_le (show 0≤n by omega);replace HHIT:=Hd (HHIT.out hn2);rw [Int.toNat_natCast] at HHIT HMISS;clear HBAD;go_wp2_with fail;go_loopw [6] (fun v6 wr=>∃q:Nat,q≤64∧v6=.int .i64 q∧Hid (∀q':Nat,q'<q→anyTo l q' m=true)∧Hid (Below w w wr)) (fun v6 _=>200-(intOf v6).toNat)
    case atStart=>exact ⟨0,by omega,rfl,fun q' h=>absurd h (Nat.not_lt_zero _),HB⟩
    case round=>
     clear HB;obtain ⟨q,hq,rfl,HBU,HB⟩:=hrel;have hw1:IntKind.i64.wrap ((q:Int)+m)=(q:Int)+m:=IntWalk.i64_in _ b10;by_cases hqn:(q:Int)+m≤64
     ·obtain ⟨wo,rfl⟩:∃wo:World,wo=wr:=⟨_,rfl⟩
      go_wp2_with fail;go_loopw [7,8] (fun v7 v8 wr=>∃j:Nat,j≤m∧v8=.int .i64 ((q:Int)+j)∧v7=.bool (!anyTo l q j)∧Hid (Below w w wr)) (fun _ v8 _=>200-(intOf v8).toNat)
      case atStart=>exact ⟨0,Nat.zero_le _,by simp,rfl,HB⟩
      case round=>
       clear HB;obtain ⟨j,hj,rfl,rfl,HB⟩:=hrel;by_cases hjm:j<m
       ·have hjm':(q:Int)+j<(q:Int)+m:=b10;have hw2:IntKind.i64.wrap ((q:Int)+j+1)=(q:Int)+j+1:=IntWalk.i64_in _ b10;have hs:=anyTo_succ l q j;have hf:=HF.out ((q:Int)+j);generalize (optA (findV l ((q:Int)+j))).st=x0 at *;generalize (optA (findV l ((q:Int)+j))).cn=x1 at *;generalize (optA (findV l ((q:Int)+j))).fi=x2 at *;generalize (optA (findV l ((q:Int)+j))).pg=x3 at *;generalize (optA (findV l ((q:Int)+j))).wr=x4 at *;generalize (findV l ((q:Int)+j)).isSome=OK at *;have HS:=Hd hs;have HF2:=Hd hf;clear hs hf HF;go_wp2_with fail;refine (HF2.out _ HB.out).mono ?_;rintro e w2 ⟨rfl,hb⟩;replace HB:=Hd (HB.out.trans (hb.mono HB.out.size));clear hb HF2;cases OK with
        |false=>
         go_wp2_with fail;go_roundw
         case rel=>exact ⟨j+1,by omega,by go_num,by rw [HS.out,Bool.or_false],HB.out.alloc HB.out.size _⟩
         case measure=>simp [intOf];omega
        |true=>
         go_wp2_with fail;go_roundw
         case rel=>exact ⟨j+1,by omega,by go_num,by rw [HS.out,Bool.or_true];rfl,HB.out.alloc HB.out.size _⟩
         case measure=>simp [intOf];omega
       ·obtain rfl:j=m:=b10;have hh:=HHIT.out q hqn HBU.out;have HH:=Hd hh;have hnx:anyTo l q j=true→∀q':Nat,q'<q+1→anyTo l q' j=true:=fun h q' hq'=>by
         by_cases e:q'=q
         ·rw [e];exact h
         ·exact HBU.out q' b10
        have HNX:=Hd hnx;clear hh hnx HHIT HMISS HBU;generalize anyTo l q j=AT at *;cases AT with
        |false=>
         have hv:=Hd (HH.out rfl);go_wp2_with fail;go_ret2;exact ⟨by rw [hv.out];rfl,HB.out⟩
        |true=>
         have hv:=Hd (HNX.out rfl);go_wp2_with fail;go_roundw
         case rel=>exact ⟨q+1,by omega,by go_num,hv,HB⟩
         case measure=>simp [intOf];omega
     ·have hv:=Hd (HMISS.out q b10 HBU.out);have hqn':64<(q:Int)+m:=b10;go_wp2_with fail;go_ret2;exact ⟨by rw [hv.out];rfl,HB.out⟩
end Go.Proofs.YtimhaidiclbnhaaGreat.Ara
