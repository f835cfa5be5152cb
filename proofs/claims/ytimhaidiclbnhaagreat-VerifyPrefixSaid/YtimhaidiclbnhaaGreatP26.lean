import Derived.Test.YtimhaidiclbnhaaGreatP23
set_option linter.unusedSimpArgs false
set_option linter.unusedVariables false
set_option maxRecDepth 100000
open Go.ChangeShapes Go.WideShapes Go.ChangeAt Go.RowKit
namespace Go.Proofs.YtimhaidiclbnhaaGreat.Ver
open Des (Dv De Dn DIn DBlk DAns Vi At RowOf ints DSz)
open Ara (Ar ARow)
open Con (StrRow)
def dupR (s:St) (p:Int) (o:Opr):Res×St:=if Des.dupE s.d p o.fd=0 then (⟨0,Des.dupF s.d p o.fd,⟨#[]⟩⟩,{s with d:=Des.dupD s.d p o.fd}) else (badR (Des.dupE s.d p o.fd),s)
namespace Ay17
theorem km4 {p : Prop} (h:p:=by
 exact cm36):p:=h
theorem km23 {p : Prop} (h:p:=by
 exact cm55):p:=h
theorem km36 {p : Prop} (h:p:=by
 exact bodyPost_ret (v:=.agg #[er,I,J,.nilFunc]) (by simp [results,Tryz.results77,go_sem,q0,q1,q2,q3]) rfl ⟨_,rfl,HP.bel,Or.inl ⟨rfl,rfl⟩⟩):p:=h
theorem km50 {p : Prop} (h:p:=by
 unfold stepV;obtain ⟨cs,hcs⟩:∃cs,cs=stepC l.M p o x:=⟨_,rfl⟩
 have HCS:=Hd hcs;rw [←hcs] at HX ⊢;clear hcs h;generalize dupR s p o=PR at *;generalize Des.dupE s.d p o.fd=er at *;generalize Des.dupF s.d p o.fd=sv at *;generalize Des.dupD s.d p o.fd=DD at *;go_enter Tryz.func77,Tryz.ntmps77;go_upto_region 1 with (fail)
 generalize World.alloc _ (Obj.cells #[I,I,J,.nilFunc] 114)=W1 at *;exact cm86):p:=h
theorem km55 {p : Prop} (h:p:=by
 go_region_held3 (fun w'=>w'.cell? (W 0 0)=some (.pointer (some (l.M 0)))∧w'.cell? (W 0 1)=some (p:U)∧w'.cell? (W 0 3)=some (o.fd:U)∧w'.cell? (l.M 24)=some (.slice l.x.oa l.x.o.length l.x.oc)∧w'.cell? (l.M 25)=some (.slice l.x.ta l.x.t.length l.x.tc)) (go_keep) (first|(go_at_call 113;refine (HC.out _ b32).mono ?_;rintro e w2 ⟨y,rfl,hpl,ha,hb⟩;have HPL:=Hd hpl;have HDA:=Hd ha;clear hpl ha;(first|(have HA:=Hd hb;replace HX:=Hd (HX.out.below hb))|(have HB:=Hd hb;obtain ⟨_,_,f0,f1,fh⟩:=Des.At.two (((At.new W1 [σ,σ] 83).drew).below hb b38);replace HX:=Hd ((HX.out.below (Br.alloc Nr _)).below hb)));clear hb t0 t1 t3 mO mP;have t0:=HX.out.t.cell 0 (.pointer (some (l.M 0))) b13;have t1:=HX.out.t.cell 1 (.int .i64 p) b13;have t3:=HX.out.t.cell 3 (.int .i64 o.fd) b13;obtain ⟨mO,mP⟩:=(HM.out.below HX.out.bel).cO))
 all_goals
  go_wp2_with fail;go_meet;first|exact ⟨_,y,rfl,rfl,rfl,HPL,Hd (Nb.after ((Below.refl W1 W1).drew.trans HA.out) [.slice y.oa y.o.length y.oc,.slice y.ta y.t.length y.tc] 83),Hd (dy_after ((Below.refl W1 W1).drew.trans HA.out) HDA.out _)⟩|exact ⟨_,y,rfl,rfl,rfl,HPL,Hd (Nb.before (T:=83) (zs:=[σ,σ]) ((Below.refl (W1.alloc _).heap.size (W1.alloc _)).drew.trans HB.out) [.slice y.oa y.o.length y.oc,.slice y.ta y.t.length y.tc] rfl),Hd (dy_before HM1.out HDA.out [.slice y.oa y.o.length y.oc,.slice y.ta y.t.length y.tc])⟩):p:=h
theorem km86 {p : Prop} (h:p:=by
 by_cases hz:er=0
 ·exact cm108
 ·exact cm121):p:=h
theorem km108 {p : Prop} (h:p:=by
 generalize hwB:(((wc.setCell (W 1 0) I).setCell (W 1 1) sv).setCell (W 1 2) J).setCell (W 1 3) (.func (.func 114) #[] #[.pointer (some (K 0)),.pointer (some (W 0 0))])=w9 at *;have HP:Bx2 W w9 W.heap.size (W.heap.size+1) cs [I,sv,J,.func (.func 114) #[] #[.pointer (some (K 0)),.pointer (some (W 0 0))]]:=by rw [←hwB];exact HX.out.putR [I,sv,J,.func (.func 114) #[] #[.pointer (some (K 0)),.pointer (some (W 0 0))]] rfl
 skip
 have HKK:Hid (At w9 K (d2 y)):=Hd (by rw [←hwB];exact HN.out.at'.apart b98 0 [I,sv,J,.func (.func 114) #[] #[.pointer (some (K 0)),.pointer (some (W 0 0))]]);have HVV:Hid (Vi w9 (vx l) y):=Hd (by rw [←hwB];exact dn_vi HM.out b10 HR1.out HV.out [I,sv,J,.func (.func 114) #[] #[.pointer (some (K 0)),.pointer (some (W 0 0))]]);clear r0 r1 r2 r3 rc0 rc1 rc2 rc3;obtain ⟨⟨q0,q1,q2,q3⟩,_,_⟩:=At.four HP.r;exact bodyPost_ret (v:=.agg #[I,sv,J,.func (.func 114) #[] #[.pointer (some (K 0)),.pointer (some (W 0 0))]]) (by simp [results,Tryz.results77,go_sem,q0,q1,q2,q3]) rfl ⟨_,rfl,HP.bel,Or.inr ⟨114,_,rfl,fun _ _=>rfl,fun W2 hf2=>by rw [←HPL.out];exact clo114 B l s p o x y K W.heap.size W2 (hf2.mm HP.bel) b33 (hf2.at HKK.out b23) (hf2.vi HVV.out (fun b hb=>(HV.out.blk b hb).imp id b52))⟩⟩):p:=h
theorem km121 {p : Prop} (h:p:=by
 exact cm4):p:=h
end Ay17
open Ay17 in
set_option maxHeartbeats 8000000 in
theorem dup_any (B:Nat) (l:Ly) (s:St) (p:Int) (o:Opr) (x:Ev) (W:World) (h:Mm B W l s) (hr:Des.Rt s.d):
 Calls Tryz.prog 77 #[stepV l.M p o x] W (PlanP B W l s (dupR s p o).1 (dupR s p o).2):=by
 have HC:Hid (∀W',Below W W W'→Calls Tryz.prog 113 #[.agg #[.slice l.x.oa l.x.o.length l.x.oc,.slice l.x.ta l.x.t.length l.x.tc],p,o.fd] W' (fun e w'=>∃y:Dv,e=.returned (.tuple #[.agg #[.slice y.oa y.o.length y.oc,.slice y.ta y.t.length y.tc],(Des.dupF s.d p o.fd),(Des.dupE s.d p o.fd)])∧y.pl=Des.dupD s.d p o.fd∧DAns W' l.x w' y∧Below W' W' w')):=Hd fun W' hb=>by
  have h1:=Des.dup_v l.x p o.fd W' (h.below hb).im.di.di (h.dz hr);rw [h.im.dp] at h1;exact h1
 have HM:=Hd h;have HE:Hid (dupR s p o=if Des.dupE s.d p o.fd=0 then (⟨0,Des.dupF s.d p o.fd,⟨#[]⟩⟩,{s with d:=Des.dupD s.d p o.fd}) else (badR (Des.dupE s.d p o.fd),s)):=Hd rfl;exact cm50
def closedR (s:St) (p:Int) (o:Opr):Res×St:=if Des.numE s.d p o.fd=0 then (⟨0,0,⟨#[]⟩⟩,{s with d:=Des.closeD s.d p o.fd}) else (badR (Des.numE s.d p o.fd),s)
namespace Ati1
theorem km4 {p : Prop} (h:p:=by
 exact cm36):p:=h
theorem km23 {p : Prop} (h:p:=by
 exact cm55):p:=h
theorem km36 {p : Prop} (h:p:=by
 exact bodyPost_ret (v:=.agg #[er,I,J,.nilFunc]) (by simp [results,Tryz.results66,go_sem,q0,q1,q2,q3]) rfl ⟨_,rfl,HP.bel,Or.inl ⟨rfl,rfl⟩⟩):p:=h
theorem km50 {p : Prop} (h:p:=by
 unfold stepV;obtain ⟨cs,hcs⟩:∃cs,cs=stepC l.M p o x:=⟨_,rfl⟩
 have HCS:=Hd hcs;rw [←hcs] at HX ⊢;clear hcs h;generalize closedR s p o=PR at *;generalize Des.numE s.d p o.fd=er at *;generalize Des.closeG s.d p o.fd=sv at *;generalize Des.closeD s.d p o.fd=DD at *;go_enter Tryz.func66,Tryz.ntmps66;go_upto_region 1 with (fail)
 generalize World.alloc _ (Obj.cells #[I,I,J,.nilFunc] 114)=W1 at *;have HM1:=Hd (HM.out.below HX.out.bel);have HR1:Hid (W.heap.size+1<W1.heap.size):=Hd HX.out.r.hi;go_cut [3,4,5] (fun s3 s4 s5 wx=>∃(K:Nat) (y:Dv),s3=.pointer (some (K 0))∧s4=.bool sv∧s5=.int .i64 er∧Hid (y.pl=DD)∧Hid (Nb W1 wx K [.slice y.oa y.o.length y.oc,.slice y.ta y.t.length y.tc])∧Hid (DAns W1 l.x wx y))
 case first=>
  exact cm23
 case rest=>
 obtain ⟨K,y,rfl,rfl,rfl,HPL,HN,HV⟩:=hcut;replace HX:=Hd (HX.out.below HN.out.bel);clear HC;by_cases hz:er=0
 ·exact cm108
 ·exact cm121):p:=h
theorem km55 {p : Prop} (h:p:=by
 go_region_held3 (fun w'=>w'.cell? (W 0 0)=some (.pointer (some (l.M 0)))∧w'.cell? (W 0 1)=some (p:U)∧w'.cell? (W 0 3)=some (o.fd:U)∧w'.cell? (l.M 24)=some (.slice l.x.oa l.x.o.length l.x.oc)∧w'.cell? (l.M 25)=some (.slice l.x.ta l.x.t.length l.x.tc)) (go_keep) (first|(go_at_call 89;refine (HC.out _ b32).mono ?_;rintro e w2 ⟨y,rfl,hpl,ha,hb⟩;have HPL:=Hd hpl;have HDA:=Hd ha;clear hpl ha;(first|(have HA:=Hd hb;replace HX:=Hd (HX.out.below hb))|(have HB:=Hd hb;obtain ⟨_,_,f0,f1,fh⟩:=Des.At.two (((At.new W1 [σ,σ] 83).drew).below hb b38);replace HX:=Hd ((HX.out.below (Br.alloc Nr _)).below hb)));clear hb t0 t1 t3 mO mP;have t0:=HX.out.t.cell 0 (.pointer (some (l.M 0))) b13;have t1:=HX.out.t.cell 1 (.int .i64 p) b13;have t3:=HX.out.t.cell 3 (.int .i64 o.fd) b13;obtain ⟨mO,mP⟩:=(HM.out.below HX.out.bel).cO))
 all_goals
  go_wp2_with fail;go_meet;first|exact ⟨_,y,rfl,rfl,rfl,HPL,Hd (Nb.after ((Below.refl W1 W1).drew.trans HA.out) [.slice y.oa y.o.length y.oc,.slice y.ta y.t.length y.tc] 83),Hd (dy_after ((Below.refl W1 W1).drew.trans HA.out) HDA.out _)⟩|exact ⟨_,y,rfl,rfl,rfl,HPL,Hd (Nb.before (T:=83) (zs:=[σ,σ]) ((Below.refl (W1.alloc _).heap.size (W1.alloc _)).drew.trans HB.out) [.slice y.oa y.o.length y.oc,.slice y.ta y.t.length y.tc] rfl),Hd (dy_before HM1.out HDA.out [.slice y.oa y.o.length y.oc,.slice y.ta y.t.length y.tc])⟩):p:=h
theorem km108 {p : Prop} (h:p:=by
 generalize hwB:(((wc.setCell (W 1 0) I).setCell (W 1 1) I).setCell (W 1 2) J).setCell (W 1 3) (.func (.func 90) #[] #[.pointer (some (K 0)),.pointer (some (W 0 0))])=w9 at *;have HP:Bx2 W w9 W.heap.size (W.heap.size+1) cs [I,I,J,.func (.func 90) #[] #[.pointer (some (K 0)),.pointer (some (W 0 0))]]:=by rw [←hwB];exact HX.out.putR [I,I,J,.func (.func 90) #[] #[.pointer (some (K 0)),.pointer (some (W 0 0))]] rfl
 skip
 have HKK:Hid (At w9 K (d2 y)):=Hd (by rw [←hwB];exact HN.out.at'.apart b98 0 [I,I,J,.func (.func 90) #[] #[.pointer (some (K 0)),.pointer (some (W 0 0))]]);have HVV:Hid (Vi w9 (vx l) y):=Hd (by rw [←hwB];exact dn_vi HM.out b10 HR1.out HV.out [I,I,J,.func (.func 90) #[] #[.pointer (some (K 0)),.pointer (some (W 0 0))]]);clear r0 r1 r2 r3 rc0 rc1 rc2 rc3;obtain ⟨⟨q0,q1,q2,q3⟩,_,_⟩:=At.four HP.r;exact bodyPost_ret (v:=.agg #[I,I,J,.func (.func 90) #[] #[.pointer (some (K 0)),.pointer (some (W 0 0))]]) (by simp [results,Tryz.results66,go_sem,q0,q1,q2,q3]) rfl ⟨_,rfl,HP.bel,Or.inr ⟨90,_,rfl,fun _ _=>rfl,fun W2 hf2=>by rw [←HPL.out];exact clo90 B l s p o x y K W.heap.size W2 (hf2.mm HP.bel) b33 (hf2.at HKK.out b23) (hf2.vi HVV.out (fun b hb=>(HV.out.blk b hb).imp id b52))⟩⟩):p:=h
theorem km121 {p : Prop} (h:p:=by
 exact cm4):p:=h
end Ati1
open Ati1 in
set_option maxHeartbeats 8000000 in
theorem closed_any (B:Nat) (l:Ly) (s:St) (p:Int) (o:Opr) (x:Ev) (W:World) (h:Mm B W l s) (hr:Des.Rt s.d):
 Calls Tryz.prog 66 #[stepV l.M p o x] W (PlanP B W l s (closedR s p o).1 (closedR s p o).2):=by
 have HC:Hid (∀W',Below W W W'→Calls Tryz.prog 89 #[.agg #[.slice l.x.oa l.x.o.length l.x.oc,.slice l.x.ta l.x.t.length l.x.tc],p,o.fd] W' (fun e w'=>∃y:Dv,e=.returned (.tuple #[.agg #[.slice y.oa y.o.length y.oc,.slice y.ta y.t.length y.tc],.bool (Des.closeG s.d p o.fd),(Des.numE s.d p o.fd)])∧y.pl=Des.closeD s.d p o.fd∧DAns W' l.x w' y∧Below W' W' w')):=Hd fun W' hb=>by
  have h1:=Des.close_v l.x p o.fd W' (h.below hb).im.di.di (h.dz hr);rw [h.im.dp] at h1;exact h1
 have HM:=Hd h;have HE:Hid (closedR s p o=if Des.numE s.d p o.fd=0 then (⟨0,0,⟨#[]⟩⟩,{s with d:=Des.closeD s.d p o.fd}) else (badR (Des.numE s.d p o.fd),s)):=Hd rfl;exact cm50
theorem readV_size (s:ByteArray) (off n:Int):(Con.readV s off n).1.size≤s.size:=by
 unfold Con.readV;split
 ·exact Nat.zero_le _
 ·split
  ·exact Nat.zero_le _
  ·show ByteArray.size (ByteArray.extract _ _ _)≤_;rw [ByteArray.size_extract];omega
def readR (s:St) (p:Int) (o:Opr):Res×St:=
 if lkE s p o.fd 1≠0 then (badR (lkE s p o.fd 1),s) else if o.len<0∨64<o.len then (badR 2,s) else (⟨0,((Con.readV (s.fs.getD (Des.lookV s.d p o.fd).fi.toNat ⟨#[]⟩) (Des.lookV s.d p o.fd).f o.len).1.size:Int),(Con.readV (s.fs.getD (Des.lookV s.d p o.fd).fi.toNat ⟨#[]⟩) (Des.lookV s.d p o.fd).f o.len).1⟩,{s with d:=Des.updD s.d (Des.numV s.d p o.fd) ((Des.lookV s.d p o.fd).f+((Con.readV (s.fs.getD (Des.lookV s.d p o.fd).fi.toNat ⟨#[]⟩) (Des.lookV s.d p o.fd).f o.len).1.size:Int)) (Des.lookV s.d p o.fd).cu})
namespace A2rt
theorem km1 {p : Prop} (h:p:=by
 exact bodyPost_ret (v:=.agg #[le,I,J,.nilFunc]) b110 rfl ⟨_,rfl,HP.bel,Or.inl ⟨rfl,rfl⟩⟩):p:=h
theorem km21 {p : Prop} (h:p:=by
 have t7:=HX.out.t.cell 7 (.int .i64 o.len) b13;by_cases hz:le=0
 ·subst hz;have HE2:=Hd (HE.out.trans (if_neg b11));clear HE;have HE:=HE2;clear HE2;by_cases hlen:o.len<0∨64<o.len
  ·obtain ⟨PR1,PR2⟩:=PR;obtain ⟨rfl,rfl⟩:PR1=_∧PR2=_:=by have:=HE.out.trans (if_pos hlen);exact ⟨congrArg Prod.fst this,congrArg Prod.snd this⟩
   clear HE;by_cases hlen1:o.len<0
   ·skip
    exact cl28
   ·skip
    have hlen2:64<o.len:=b10;exact cl28
  ·have HE2:=Hd (HE.out.trans (if_neg hlen));clear HE;have HE:=HE2;clear HE2;have hl1:¬o.len<0:=fun e=>hlen (Or.inl e);have hl2:¬64<o.len:=fun e=>hlen (Or.inr e);clear hlen;obtain ⟨⟨hf0,hf1⟩,f,hf,hfn⟩:=HLZ.out rfl;rw [hf,Int.toNat_natCast] at HE;have HFI:Hid (D.fi=(f:Int)):=Hd hf;exact cm80
 ·exact cm53):p:=h
theorem km49 {p : Prop} (h:p:=by
 generalize readR s p o=PR at *;generalize lkE s p o.fd 1=le at *;generalize Des.numV s.d p o.fd=nv at *;generalize Des.lookV s.d p o.fd=D at *;go_enter Tryz.func67,Tryz.ntmps67;exact cm21):p:=h
theorem km53 {p : Prop} (h:p:=by
 clear HCA HLZ;exact cm1):p:=h
theorem km80 {p : Prop} (h:p:=by
 have HCB:=Hd (fun W'=>HCA.out sd D.f W' hsd);have hts:=Nat.le_trans (readV_size sd D.f o.len) hsd;clear HCA HLZ hf hsd;obtain ⟨TD,TE,hte⟩:∃TD TE,Con.readV sd D.f o.len=(TD,TE):=⟨_,_,rfl⟩
 rw [hte] at HE HCB hts;simp only at HE HCB hts;clear hte;have hfI:(f:Int)<(s.fs.length:Int):=b10;have hnI:(s.fs.length:Int)≤1000:=b10;go_upto_region 6 with (fail)
 clear t7;go_cut [6] (fun v wx=>v=.string TD∧Hid (Below W1 W1 wx))
 case first=>
  replace HX:=Hd (HX.out.below Br.drew);replace HK:=Hd (Des.At.drew HK.out);have t0:=HX.out.t.cell 0 (.pointer (some (l.M 0))) b13;have t7:=HX.out.t.cell 7 (.int .i64 o.len) b13;have mF:=(HM.out.below HX.out.bel).cF;have a:=(HM.out.below HX.out.bel).f.cell f (.string sd) HFC.out;have d0:=HK.out.cell 0 (.int .i64 (f:Int)) b18;have d2:=HK.out.cell 2 (.int .i64 D.f) rfl;go_region_held3 (fun w'=>w'.cell? (W 0 0)=some (.pointer (some (l.M 0)))∧w'.cell? (W 0 7)=some (o.len:U)∧w'.cell? (l.M 21)=some (.slice (some (l.F 0)) s.fs.length s.fs.length)∧w'.cell? (l.F f)=some (.string sd)∧w'.cell? (K 0)=some (f:U)∧w'.cell? (K 2)=some (D.f:U)) (go_keep) (first|(go_at_call 92;refine (HCB.out _).mono ?_;rintro e w3 ⟨rfl,rfl⟩))
  all_goals
   go_wp2_with fail;go_meet;exact ⟨rfl,Hd (Below.refl W1 W1).drew⟩
 case rest=>
 obtain ⟨rfl,HBB⟩:=hcut;replace HX:=Hd (HX.out.below HBB.out);replace HN:=Hd (HN.out.below HBB.out HN.out.hi);replace HK:=Hd (HK.out.below HBB.out HK.out.hi);clear HBB HCB;obtain ⟨⟨d0,d1,d2,d3,d4⟩,⟨f0,f1,f2,f3,f4⟩,fh⟩:=Des.At.five HK.out;have htI:0≤(TD.size:Int)∧(TD.size:Int)≤1000:=b10;obtain ⟨ht0,ht1⟩:=htI;have hwr:wrap64 (D.f+(TD.size:Int))=D.f+(TD.size:Int):=IntWalk.wrap64_in _ b10;have HX2:Hid (Bx2 W (wc.setCell (K 2) (.int .i64 (D.f+(TD.size:Int)))) W.heap.size (W.heap.size+1) cs [I,I,J,.nilFunc]):=Hd ⟨HX.out.bel.setCell (p:=(K 2)) b72 _,HX.out.t.setOther (x:=⟨K,2,none⟩) b73 _,HX.out.r.setOther (x:=⟨K,2,none⟩) b74 _,HX.out.lo,HX.out.tr⟩;have HK2:=Hd (HK.out.set 2 (.int .i64 (D.f+(TD.size:Int))));have HN2:Hid (At (wc.setCell (K 2) (.int .i64 (D.f+(TD.size:Int)))) N [nv]):=Hd (HN.out.setOther (x:=⟨K,2,none⟩) b75 _);go_upto_region 8 with (fail)
 generalize wc.setCell (K 2) (.int .i64 (D.f+(TD.size:Int)))=W2 at *;replace HK2:Hid (At W2 K [D.fi,D.fl,.int .i64 (D.f+(TD.size:Int)),D.cu,D.rf]):=HK2;replace HX:=HX2;clear HX2 HK HN d0 d1 d2 d3 d4 f0 f1 f2 f3 f4 fh hwr;obtain ⟨PR1,PR2⟩:=PR;obtain ⟨rfl,rfl⟩:PR1=_∧PR2=_:=by have:=HE.out;exact ⟨congrArg Prod.fst this,congrArg Prod.snd this⟩
 exact cm102):p:=h
theorem km88 {p : Prop} (h:p:=by
 have HCA:Hid (∀(sd:ByteArray) (f:Int) W',sd.size≤1000→Calls Tryz.prog 92 #[.string sd,f,o.len] W' (fun e w'=>e=.returned (.tuple #[.string (Con.readV sd f o.len).1,(Con.readV sd f o.len).2])∧W'=w')):=Hd fun sd f W' hs=>Con.read_any sd f o.len W' b17;have HLZ:Hid (lkE s p o.fd 1=0→(0≤(Des.lookV s.d p o.fd).f∧(Des.lookV s.d p o.fd).f≤128)∧∃f:Nat,(Des.lookV s.d p o.fd).fi=(f:Int)∧f<s.fs.length):=Hd fun h0=>⟨by
  have h4:=(lk_zero h0 hr).2.2.1;unfold Des.rightD Des.movB at h4;rw [Bool.and_eq_true,Bool.and_eq_true] at h4;exact of_decide_eq_true h4.2.1,(lk_zero h0 hr).2.2.2⟩
 have HE:Hid (readR s p o=if lkE s p o.fd 1≠0 then (badR (lkE s p o.fd 1),s) else if o.len<0∨64<o.len then (badR 2,s) else (⟨0,((Con.readV (s.fs.getD (Des.lookV s.d p o.fd).fi.toNat ⟨#[]⟩) (Des.lookV s.d p o.fd).f o.len).1.size:Int),(Con.readV (s.fs.getD (Des.lookV s.d p o.fd).fi.toNat ⟨#[]⟩) (Des.lookV s.d p o.fd).f o.len).1⟩,{s with d:=Des.updD s.d (Des.numV s.d p o.fd) ((Des.lookV s.d p o.fd).f+((Con.readV (s.fs.getD (Des.lookV s.d p o.fd).fi.toNat ⟨#[]⟩) (Des.lookV s.d p o.fd).f o.len).1.size:Int)) (Des.lookV s.d p o.fd).cu})):=Hd rfl;exact cm49):p:=h
theorem km102 {p : Prop} (h:p:=by
 generalize hwB:(((W2.setCell (W 1 0) I).setCell (W 1 1) TD.size).setCell (W 1 2) (.string TD)).setCell (W 1 3) (.func (.func 93) #[] #[.pointer (some (W 0 0)),.pointer (some (N 0)),.pointer (some (K 0))])=w9 at *;have HP:Bx2 W w9 W.heap.size (W.heap.size+1) cs [I,TD.size,.string TD,.func (.func 93) #[] #[.pointer (some (W 0 0)),.pointer (some (N 0)),.pointer (some (K 0))]]:=by rw [←hwB];exact HX.out.putR [I,TD.size,.string TD,.func (.func 93) #[] #[.pointer (some (W 0 0)),.pointer (some (N 0)),.pointer (some (K 0))]] rfl
 skip
 have HAN:Hid (At w9 N [nv]):=Hd (by rw [←hwB];exact HN2.out.apart b43 0 [I,TD.size,.string TD,.func (.func 93) #[] #[.pointer (some (W 0 0)),.pointer (some (N 0)),.pointer (some (K 0))]]);have HAK:Hid (At w9 K [D.fi,D.fl,.int .i64 (D.f+(TD.size:Int)),D.cu,D.rf]):=Hd (by rw [←hwB];exact HK2.out.apart b43 0 [I,TD.size,.string TD,.func (.func 93) #[] #[.pointer (some (W 0 0)),.pointer (some (N 0)),.pointer (some (K 0))]]);clear r0 r1 r2 r3 rc0 rc1 rc2 rc3;obtain ⟨⟨q0,q1,q2,q3⟩,_,_⟩:=At.four HP.r;exact bodyPost_ret (v:=.agg #[I,TD.size,.string TD,.func (.func 93) #[] #[.pointer (some (W 0 0)),.pointer (some (N 0)),.pointer (some (K 0))]]) b110 rfl ⟨_,rfl,HP.bel,Or.inr ⟨93,_,rfl,fun _ _=>rfl,fun W2' hf2=>clo93 B l s p o x nv ⟨D.fi,D.fl,D.f+(TD.size:Int),D.cu,D.rf⟩ W.heap.size N K W2' (hf2.mm HP.bel) hr b33 (hf2.at HAN.out b23) (hf2.at HAK.out b23)⟩⟩):p:=h
end A2rt
open A2rt in
set_option maxHeartbeats 8000000 in
theorem read_any (B:Nat) (l:Ly) (s:St) (p:Int) (o:Opr) (x:Ev) (W:World) (h:Mm B W l s) (hr:Des.Rt s.d) (hn:s.fs.length≤1000) (hsz:∀y,y∈s.fs→y.size≤1000):
 Calls Tryz.prog 67 #[stepV l.M p o x] W (PlanP B W l s (readR s p o).1 (readR s p o).2):=by
 exact cm88
end Go.Proofs.YtimhaidiclbnhaaGreat.Ver
