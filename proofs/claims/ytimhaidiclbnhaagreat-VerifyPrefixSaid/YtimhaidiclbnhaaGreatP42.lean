import Derived.Test.YtimhaidiclbnhaaGreatP32
import Derived.Test.YtimhaidiclbnhaaGreatP33
set_option linter.unusedSimpArgs false
set_option linter.unusedVariables false
set_option maxRecDepth 100000
open Go.ChangeShapes Go.WideShapes Go.ChangeAt Go.RowKit
namespace Go.Proofs.YtimhaidiclbnhaaGreat.Ver
open Des (Dv De Dn DIn DBlk DAns Vi At RowOf ints DSz)
open Ara (Ar ARow)
open Con (StrRow)
theorem ad_in {s:St} {p:Nat} {o:Opr} (hb:adB s p o=true):0≤adN s p o∧adN s p o<128:=by
 unfold adB at hb;unfold adN adA;by_cases hz:o.off<0
 ·rw [if_pos hz] at hb;cases hb
 ·rw [if_neg hz] at hb;rw [if_neg hz,if_neg hz];generalize (o.off.toNat/16:Nat)=v at *;have hr:o.off.toNat%16<16:=Nat.mod_lt _ b14;generalize o.off.toNat%16=r at *;generalize s.ar.getD p []=L at *;unfold Ara.findV at hb ⊢;by_cases hc:Ara.checkV L=true
  ·rw [if_pos hc] at hb ⊢;cases hf:L.find? (Ara.inB (v:Int)) with
   |none=>rw [hf] at hb;cases hb
   |some a=>
    have hm:=List.mem_of_find?_eq_some hf;obtain ⟨j,hj,e⟩:=List.mem_iff_getElem.1 hm;have h1:=(Ara.check_right hc j hj).1;rw [show L.getD j Ara.Ar.zero=L[j] from by simp [List.getD,hj],e] at h1;have h2:=Ara.rightB_iff.1 h1;have h3:=List.find?_some hf;unfold Ara.inB at h3;have h4:=of_decide_eq_true h3;show 0≤(a.pg+(v:Int)-a.st)*16+(r:Int)∧(a.pg+(v:Int)-a.st)*16+(r:Int)<128;omega
  ·rw [if_neg hc] at hb;cases hb
section
variable {K:Nat} {s:St} {p:Nat} {o:Opr}
theorem load_eq (h:Okr K s):loadR s p o=if adB s p o=false then (badR 4,s) else if ((s.fs.getD (adA s p o).fi.toNat ⟨#[]⟩).size:Int)≤adN s p o then (badR 12,s) else (⟨0,1,(s.fs.getD (adA s p o).fi.toNat ⟨#[]⟩).extract (adN s p o).toNat ((adN s p o).toNat+1)⟩,s):=by
 unfold loadR;by_cases hb:adB s p o=false
 ·rw [if_pos hb,if_pos hb]
 ·rw [if_neg hb,if_neg hb];obtain ⟨h0,h1⟩:=ad_in (by simpa using hb);have hg:=h.get (adA s p o).fi.toNat;generalize s.fs.getD (adA s p o).fi.toNat ⟨#[]⟩=sd at *;generalize adN s p o=n at *;have hlong:¬Con.longB sd=true:=by rw [Con.longB_iff];omega
  have e:(Con.readV sd n 1).1=sd.extract (min n.toNat sd.size) (min n.toNat sd.size+min 1 (sd.size-min n.toNat sd.size)):=by
   unfold Con.readV;rw [if_neg hlong,if_neg b77];rfl
  by_cases hs:(sd.size:Int)≤n
  ·rw [if_pos hs,if_pos];rw [e,ByteArray.size_extract];omega
  ·rw [if_neg hs,if_neg]
   ·rw [e,show min n.toNat sd.size=n.toNat from by omega,show min 1 (sd.size-n.toNat)=1 from by omega]
   ·rw [e,ByteArray.size_extract];omega
theorem store_eq:storeR s p o=if adB s p o=false then (badR 4,s) else if (adA s p o).wr=false then (badR 13,s) else if (o.dat.size:Int)≠1 then (badR 2,s) else if ((s.fs.getD (adA s p o).fi.toNat ⟨#[]⟩).size:Int)≤adN s p o then (badR 12,s) else (⟨0,1,⟨#[]⟩⟩,chS s (adA s p o).fi.toNat (Con.writeV (s.fs.getD (adA s p o).fi.toNat ⟨#[]⟩) (adN s p o) o.dat).1):=rfl
end
theorem Bx2.finA {W w:World} {T R:Nat} {cs rs:List Value} (hx:Bx2 W w T R cs rs) (r:Res) (hr:rs.length=3):At (((w.setCell (R 0) r.er).setCell (R 1) r.n).setCell (R 2) (.string r.dat)) R [r.er,r.n,.string r.dat]:=
 (hx.putR [r.er,r.n,.string r.dat] hr.symm).r
theorem Bx2.fin {b:Bool} {q:Rq} {B:Nat} {W w:World} {l:Ly} {s:St} {T R:Nat} {cs rs:List Value} (hx:Bx2 W w T R cs rs) (h:Rm q B W l s) (r:Res) (hr:rs.length=3):RefP b q B W l r s (.returned (.agg #[r.er,r.n,.string r.dat])) (((w.setCell (R 0) r.er).setCell (R 1) r.n).setCell (R 2) (.string r.dat)):=by
 have h2:=hx.putR [r.er,r.n,.string r.dat] hr.symm;exact ⟨⟨l.x,l.ar,l.hs,rfl,h.below h2.bel,Vk.ofBelow h2.bel⟩,fun _=>h2.bel⟩
namespace Aeoo
theorem km6 {p : Prop} (h:p:=by
 clear hcs hov hkd hsl h;obtain ⟨Z,hZ⟩:∃Z,Z=(if b=true then (loadR s p o).2 else s):=⟨_,rfl⟩
 rw [←hZ];have HZ:=Hd hZ;clear hZ;generalize (loadR s p o)=PR at *;have hpI:(p:Int)<(s.scr.length:Int):=b10;have hnS:(s.scr.length:Int)≤1000:=by have:=ok.ns;omega
 have HOK:=Hd ok;have HOR:=Hd okr;clear ok okr;by_cases hneg:o.off<0
 ·exact cl20
 ·exact cm25):p:=h
theorem km25 {p : Prop} (h:p:=by
 have t0:=HL.out.t.cell 0 (.int .i64 11) b26;have a4:=HL.out.k.cell 4 (.bool a.wr) rfl;cases fb
 ·exact cl22
 ·skip
  exact cm51):p:=h
theorem km35 {p : Prop} (h:p:=by
 have HE:=Hd (load_eq okr (p:=p) (o:=o));have HAF:Hid (adB s p o=true→∃f:Nat,(adA s p o).fi=(f:Int)∧f<s.fs.length):=Hd (af_find (ok.af p));have HIN:Hid (adB s p o=true→0≤adN s p o∧adN s p o<128):=Hd ad_in;exact cm6):p:=h
theorem km51 {p : Prop} (h:p:=by
 have t0:=HL.out.t.cell 0 (.int .i64 11) b26;by_cases hs:(sd.size:Int)≤(m:Int)
 ·skip
  obtain rfl:PR=_:=HE.out.trans ((if_neg b11).trans (if_pos hs));exact cl23
 ·rw [Int.toNat_natCast] at HE;obtain rfl:PR=_:=HE.out.trans ((if_neg b11).trans (if_neg hs));clear HE;have HZ9:Hid (Z=s):=Hd (HZ.out.trans b11);clear HZ;have hms:(m:Int)+1≤(sd.size:Int):=b10;have hms0:(0:Int)≤(m:Int)+1:=b10;have hm1:wrap64 ((m:Int)+1)=(m:Int)+1:=IntWalk.wrap64_in _ b10;obtain ⟨⟨rc0,rc1,rc2⟩,⟨r0,r1,r2⟩,rh⟩:=At.three HL.out.r;go_wp2_with fail;change bodyPost _ _ _ _ _ (((wc.setCell (W 1 0) I).setCell (W 1 1) (1:Int)).setCell (W 1 2) (.string (sd.extract m (m+1))));generalize hwB:((wc.setCell (W 1 0) I).setCell (W 1 1) (1:Int)).setCell (W 1 2) (.string (sd.extract m (m+1)))=w9 at *;have HQ:Hid (At w9 (W.heap.size+1) [I,(1:Int),.string (sd.extract m (m+1))]):=by rw [←hwB];exact Hd (HL.out.finA ⟨0,1,(sd.extract m (m+1))⟩ rfl)
  clear rc0 rc1 rc2 r0 r1 r2 rh;obtain ⟨⟨q0,q1,q2⟩,_,_⟩:=At.three HQ.out;exact bodyPost_ret (v:=.agg #[I,(1:Int),.string (sd.extract m (m+1))]) b46 rfl (by (try rw [HZ9.out]);rw [←hwB];exact HL.out.fin ⟨0,1,(sd.extract m (m+1))⟩ rfl HEX.out b20)):p:=h
end Aeoo
open Aeoo in
set_option maxHeartbeats 16000000 in
theorem bya_load (K:Nat) (q:Rq) (B:Nat) (l:Ly) (s:St) (p:Nat) (o:Opr) (b:Bool) (W:World) (h:Rm q B W l s) (ok:Ok K s) (okr:Okr K s) (hK:K≤9000) (hp:p<s.scr.length) (hkd:o.kd=11) (hoff:o.off≤1000000) (hdat:o.dat.size≤1000):
 Calls Tryz.prog 34 #[.pointer (some (l.M 0)),p,opVal o,.bool b] W (RefP b q B W l (loadR s p o).1 (if b=true then (loadR s p o).2 else s)):=by
 exact cm35
namespace Az42
theorem km6 {p : Prop} (h:p:=by
 clear hcs hov hkd hsl h;obtain ⟨Z,hZ⟩:∃Z,Z=(if b=true then (storeR s p o).2 else s):=⟨_,rfl⟩
 rw [←hZ];have HZ:=Hd hZ;clear hZ;generalize (storeR s p o)=PR at *;have hpI:(p:Int)<(s.scr.length:Int):=b10;have hnS:(s.scr.length:Int)≤1000:=by have:=ok.ns;omega
 have HOK:=Hd ok;have HOR:=Hd okr;clear ok okr;by_cases hneg:o.off<0
 ·exact cl20
 ·exact cm25):p:=h
theorem km25 {p : Prop} (h:p:=by
 have t0:=HL.out.t.cell 0 (.int .i64 12) b26;have a4:=HL.out.k.cell 4 (.bool a.wr) rfl;cases fb
 ·exact cl22
 ·have HWR:Hid (a.wr=a.wr):=Hd rfl;obtain ⟨wv,hwv⟩:∃wv,a.wr=wv:=⟨_,rfl⟩
  rw [hwv] at a4;cases wv
  ·skip
   obtain rfl:PR=_:=HE.out.trans ((if_neg b11).trans (if_pos hwv));clear HE;have HZ9:Hid (Z=s):=Hd (HZ.out.trans b11);clear HZ;clear hwv;obtain ⟨⟨rc0,rc1,rc2⟩,⟨r0,r1,r2⟩,rh⟩:=At.three HL.out.r;go_wp2_with fail;change bodyPost _ _ _ _ _ (((wc.setCell (W 1 0) (13:Int)).setCell (W 1 1) I).setCell (W 1 2) J);generalize hwB:((wc.setCell (W 1 0) (13:Int)).setCell (W 1 1) I).setCell (W 1 2) J=w9 at *;have HQ:Hid (At w9 (W.heap.size+1) [(13:Int),I,J]):=by rw [←hwB];exact Hd (HL.out.finA ⟨13,0,⟨#[]⟩⟩ rfl)
   clear rc0 rc1 rc2 r0 r1 r2 rh;obtain ⟨⟨q0,q1,q2⟩,_,_⟩:=At.three HQ.out;exact bodyPost_ret (v:=.agg #[(13:Int),I,J]) b46 rfl b133
  ·have HE2:=HE.out.trans ((if_neg b11).trans (if_neg (by rw [hwv];simp)));clear HE;have HE:=Hd HE2;clear HE2 hwv;have t7:=HL.out.t.cell 7 (.string o.dat) b13;by_cases hd1:(o.dat.size:Int)=1
   ·have HE2:=HE.out.trans (if_neg (by simp [hd1]));clear HE;have HE:=Hd HE2;clear HE2;exact cm51
   ·have hd1':¬(o.dat.size:Int)=1:=hd1;obtain rfl:PR=_:=HE.out.trans (if_pos hd1);clear HE;have HZ9:Hid (Z=s):=Hd (HZ.out.trans b11);clear HZ;obtain ⟨⟨rc0,rc1,rc2⟩,⟨r0,r1,r2⟩,rh⟩:=At.three HL.out.r;exact cm107):p:=h
theorem km35 {p : Prop} (h:p:=by
 have HE:=Hd (store_eq (s:=s) (p:=p) (o:=o));have HAF:Hid (adB s p o=true→∃f:Nat,(adA s p o).fi=(f:Int)∧f<s.fs.length):=Hd (af_find (ok.af p));have HIN:Hid (adB s p o=true→0≤adN s p o∧adN s p o<128):=Hd ad_in;exact cm119):p:=h
theorem km51 {p : Prop} (h:p:=by
 have t0:=HL.out.t.cell 0 (.int .i64 12) b26;clear t7;have t7:=HL.out.t.cell 7 (.string o.dat) b13;by_cases hs:(sd.size:Int)≤(m:Int)
 ·skip
  obtain rfl:PR=_:=HE.out.trans (if_pos hs);exact cl23
 ·skip
  obtain rfl:PR=_:=HE.out.trans (if_neg hs);clear HE;have hms:(m:Int)<(sd.size:Int):=b10;cases b
  ·skip
   have HZ9:Hid (Z=s):=Hd (HZ.out.trans b11);clear HZ;obtain ⟨⟨rc0,rc1,rc2⟩,⟨r0,r1,r2⟩,rh⟩:=At.three HL.out.r;go_wp2_with fail;change bodyPost _ _ _ _ _ (((wc.setCell (W 1 0) I).setCell (W 1 1) (1:Int)).setCell (W 1 2) J);generalize hwB:((wc.setCell (W 1 0) I).setCell (W 1 1) (1:Int)).setCell (W 1 2) J=w9 at *;have HQ:Hid (At w9 (W.heap.size+1) [I,(1:Int),J]):=by rw [←hwB];exact Hd (HL.out.finA ⟨0,1,⟨#[]⟩⟩ rfl)
   clear rc0 rc1 rc2 r0 r1 r2 rh;obtain ⟨⟨q0,q1,q2⟩,_,_⟩:=At.three HQ.out;exact bodyPost_ret (v:=.agg #[I,(1:Int),J]) b46 rfl (by (try rw [HZ9.out]);rw [←hwB];exact HL.out.fin ⟨0,1,⟨#[]⟩⟩ rfl HEX.out b20)
  ·skip
   have HZ9:Hid (Z=chS s f (Con.writeV sd (m:Int) o.dat).1):=Hd (HZ.out.trans b11);clear HZ;have HW:=Hd (fun W'=>HCA.out sd (m:Int) W' hsd);clear HCA;generalize (Con.writeV sd (m:Int) o.dat).1=TD at *;generalize (Con.writeV sd (m:Int) o.dat).2=TE at *;go_wp2_with fail;refine (HW.out _).mono ?_;rintro e w5 ⟨rfl,hb⟩;replace HL:=Hd (HL.out.below hb);clear hb t0 t7;have a2:=HL.out.k.cell 2 (.int .i64 (f:Int)) b18;go_wp2_with fail;refine (changeM_any q B {l with ex:=W.heap.size::(W.heap.size+1)::Kb::l.ex} s f TD w5 HL.out.m hfn b61 HOK.out.nf b113).mono ?_;rintro e w6 ⟨hs2,rfl,hm2,hv2⟩;have HL3:=Hd (HL.out.stepH hs2 hm2 hv2);clear hm2 hv2 a2 HL;obtain ⟨⟨rc0,rc1,rc2⟩,⟨r0,r1,r2⟩,rh⟩:=At.three HL3.out.r;go_wp2_with fail;change bodyPost _ _ _ _ _ (((w6.setCell (W 1 0) I).setCell (W 1 1) (1:Int)).setCell (W 1 2) J);generalize hwB:((w6.setCell (W 1 0) I).setCell (W 1 1) (1:Int)).setCell (W 1 2) J=w9 at *;have HQ:Hid (At w9 (W.heap.size+1) [I,(1:Int),J]):=by rw [←hwB];exact Hd (HL3.out.finA ⟨0,1,⟨#[]⟩⟩ rfl)
   clear rc0 rc1 rc2 r0 r1 r2 rh;obtain ⟨⟨q0,q1,q2⟩,_,_⟩:=At.three HQ.out;exact bodyPost_ret (v:=.agg #[I,(1:Int),J]) b46 rfl (by (try rw [HZ9.out]);rw [←hwB];exact HL3.out.fin ⟨0,1,⟨#[]⟩⟩ rfl HEX.out b20)):p:=h
theorem km107 {p : Prop} (h:p:=by
 have HQ:Hid (At w9 (W.heap.size+1) [(2:Int),I,J]):=by rw [←hwB];exact Hd (HL.out.finA ⟨2,0,⟨#[]⟩⟩ rfl)
 clear rc0 rc1 rc2 r0 r1 r2 rh;obtain ⟨⟨q0,q1,q2⟩,_,_⟩:=At.three HQ.out;exact bodyPost_ret (v:=.agg #[(2:Int),I,J]) b46 rfl b114):p:=h
theorem km119 {p : Prop} (h:p:=by
 exact cm6):p:=h
end Az42
open Az42 in
set_option maxHeartbeats 16000000 in
theorem bya_store (K:Nat) (q:Rq) (B:Nat) (l:Ly) (s:St) (p:Nat) (o:Opr) (b:Bool) (W:World) (h:Rm q B W l s) (ok:Ok K s) (okr:Okr K s) (hK:K≤9000) (hp:p<s.scr.length) (hkd:o.kd=12) (hoff:o.off≤1000000) (hdat:o.dat.size≤1000):
 Calls Tryz.prog 34 #[.pointer (some (l.M 0)),p,opVal o,.bool b] W (RefP b q B W l (storeR s p o).1 (if b=true then (storeR s p o).2 else s)):=by
 exact cm35
end Go.Proofs.YtimhaidiclbnhaaGreat.Ver
namespace Go.Proofs.YtimhaidiclbnhaaGreat.Ara
theorem parts_eq {es ec ef ep s n:Int} {eb:Bool} (hr:rightB ⟨es,ec,ef,ep,eb⟩=true) (hs:0≤s) (hn:1≤n) (hsn:s+n≤64):
 (partV ⟨es,ec,ef,ep,eb⟩ 0 s).toList=(if es<s then [⟨es,min (es+ec) s-es,ef,ep,eb⟩] else [])∧
 (partV ⟨es,ec,ef,ep,eb⟩ (s+n) 64).toList=(if s+n<es+ec then [⟨max es (s+n),es+ec-max es (s+n),ef,ep+(max es (s+n)-es),eb⟩] else []):=by
 have hr:=right_num hr;simp only at hr;constructor
 ·by_cases h:es<s
  ·rw [if_pos h,show partV ⟨es,ec,ef,ep,eb⟩ 0 s=some ⟨es,min (es+ec) s-es,ef,ep,eb⟩ from part_iff.2 ⟨by dsimp only;omega,Ar.ext' b47 b47 rfl b47 rfl⟩];rfl
  ·rw [if_neg h,show partV ⟨es,ec,ef,ep,eb⟩ 0 s=none from by unfold partV;rw [if_pos b47]];rfl
 ·by_cases h:s+n<es+ec
  ·rw [if_pos h,show partV ⟨es,ec,ef,ep,eb⟩ (s+n) 64=some ⟨max es (s+n),es+ec-max es (s+n),ef,ep+(max es (s+n)-es),eb⟩ from part_iff.2 ⟨by dsimp only;omega,Ar.ext' b47 b47 rfl b47 rfl⟩];rfl
  ·rw [if_neg h,show partV ⟨es,ec,ef,ep,eb⟩ (s+n) 64=none from by unfold partV;rw [if_pos b47]];rfl
theorem Blk.snd (w:World) (o1:Obj) (s c f p:Int) (b:Bool):Blk ((w.alloc o1).alloc (.cells #[s,c,f,p,.bool b] 139)) (w.heap.size+1) ⟨s,c,f,p,b⟩:=by
 have h:=Blk.new (w.alloc o1) s c f p b;rw [show (w.alloc o1).heap.size=w.heap.size+1 from by simp] at h;exact h
theorem Blk.third (w:World) (o1 o2:Obj) (s c f p:Int) (b:Bool):Blk (((w.alloc o1).alloc o2).alloc (.cells #[s,c,f,p,.bool b] 139)) (w.heap.size+1+1) ⟨s,c,f,p,b⟩:=by
 have h:=Blk.new ((w.alloc o1).alloc o2) s c f p b;rw [show ((w.alloc o1).alloc o2).heap.size=w.heap.size+1+1 from by simp] at h;exact h
theorem Blk.grown {W W':World} {A:Nat} {a:Ar} {row:Option Nat} (h:Blk W A a) (hg:W.grownBy W' row) (hne:¬(some A=row)):Blk W' A a:=by
 have hb:=hg.block A h.hi hne;have hc:∀o,W'.cell? (A o)=W.cell? (A o):=fun o=>World.cell?_of_block (w:=W) (a:=⟨A,o,none⟩) hb;have hf:∀o,W'.frozen? (A o)=W.frozen? (A o):=fun o=>World.frozen?_of_block (w:=W) (a:=⟨A,o,none⟩) hb;exact ⟨Nat.lt_of_lt_of_le h.hi hg.size,by rw [hc];exact h.c0,by rw [hc];exact h.c1,by rw [hc];exact h.c2,by rw [hc];exact h.c3,by rw [hc];exact h.c4,fun i hi=>by rw [hf];exact h.f i hi⟩
namespace Ak18
theorem km19 {p : Prop} (h:p:=by
 have HV3:Hid (checkV l=true→withinB s n 64=true→unmapV l s n=if 8<(outTo l s n l.length).length then (l,3) else (outTo l s n l.length,0)):=fun hc hw=>unmap_ok hc hw;have HW:=Hd (fun w=>span_any s n w);have HWI:Hid (withinB s n 64=true→0≤s∧1≤n∧s+n≤64):=fun hw=>within_num hw;clear h;go_enter Tryz.func33,Tryz.ntmps33;go_wp2_with fail;refine HCK.out.mono ?_;rintro e w1 ⟨rfl,hb⟩;have HB:=Hd hb;clear hb HCK;cases hcv:checkV l with
 |false=>
  have HVV:=Hd (HV1.out hcv);clear HV1 HV2 HV3 HR;exact cl73
 |true=>
  have HR2:=Hd (HR.out hcv);have HV4:=Hd (HV2.out hcv);have HV5:=Hd (HV3.out hcv);clear HV1 HV2 HV3 HR hcv;go_wp2_with fail;refine (HW.out _).mono ?_;rintro e w2 ⟨rfl,rfl⟩;cases hwi:withinB s n 64 with
  |false=>
   have HVV:=Hd (HV4.out hwi);clear HV4 HV5;exact cl73
  |true=>
   have HVV:=Hd (HV5.out hwi);obtain ⟨s0,n0,sn⟩:=HWI.out hwi;clear HV4 HV5 HWI HW hwi;have hw1:IntKind.i64.wrap (s+n)=s+n:=IntWalk.i64_in _ b10;go_wp2_with fail;obtain ⟨i0,hi,hz0,hz1,hz2⟩:=info_parts area_info;go_loopw [9,10] (fun v9 v10 wr=>∃k:Nat,k≤l.length∧v10=.int .i64 k∧Hid (Below w w wr)∧Hid (wr.ownsRow w.heap.size 139 5 v9 (outTo l s n k).length (flat (outTo l s n k)))) (fun _ v10 _=>200-(intOf v10).toNat)
   case atStart=>exact ⟨0,Nat.zero_le _,rfl,HB,World.ownsRow_nil _ _ _ _⟩
   case round=>
    clear HB;obtain ⟨k,hk,rfl,HB,HO⟩:=hrel;by_cases hlt:k<l.length
    ·have hlt':(k:Int)<(l.length:Int):=b10;obtain ⟨g,rfl,hg,hcap,hcel⟩:=HA.out _ HB.out k hlt;have hre:=HR2.out k hlt;have hol:=outTo_len l s n k;have hos:=outTo_succ l s n k hlt;clear HA HVV HROW;generalize l.getD k Ar.zero=e at *;obtain ⟨es,ec,ef,ep,eb⟩:=e;obtain ⟨k0,k1,k2,k3,k4⟩:=hcel;simp only at k0 k1 k2 k3 k4;obtain ⟨p1,p2⟩:=parts_eq hre s0 n0 sn;rw [p1,p2] at hos;have hrn:=right_num hre;simp only at hrn;clear hre p1 p2;generalize outTo l s n k=L at *;have HLL:Hid (∀x:Ar,(L++[x]).length≤201):=fun x=>by simp;omega
     have HOS:=Hd hos;clear hos;have hw2:IntKind.i64.wrap (es+ec)=es+ec:=IntWalk.i64_in _ b10;have hbs:=HB.out.size;have HAN:Hid (∀x,u9.ownBlock=some x→x≠wr.heap.size):=fun x hx=>by have:=(HO.out.lt x hx).2;omega
     by_cases hc1:es<s
     ·go_wp2_with (at_builtin;refine wpList_append_own _ rfl _ _ 106 rfl w.heap.size 139 i0 _ 5 40 Tryz.underlying106 hi hz0 hz1 hz2 rfl b14 _ _ _ rfl (((HO.out.alloc (Obj.cells #[es,ec,ef,ep,.bool eb] 139)).alloc (Obj.cells #[es,.int .i64 (min (es+ec) s-es),ef,ep,.bool eb] 139)).alloc (Obj.cells #[es,.int .i64 (min (es+ec) s-es),ef,ep,.bool eb] 139)) ⟨wr.heap.size+1+1,0,none⟩ 1 1 [es,.int .i64 (min (es+ec) s-es),ef,ep,.bool eb] rfl rfl ?d1 ?d2 ?d3 ?d4 ?d5 ?_)
      try
       (case d1=>
        intro j u hj;rw [Addr.add_lit];exact cells_at (Blk.third wr _ _ es (min (es+ec) s-es) ef ep eb) j u hj)
      case d2=>
       exact cl66
      case d3=>unfold maxLen;(try simp);omega
      case d4=>(try simp);omega
      case d5=>have:=HB.out.size;simp;omega
      intro vw9 w9 hown' hgrow _;have hBn:=(((HB.out.alloc HB.out.size (Obj.cells #[es,ec,ef,ep,.bool eb] 139)).alloc b48 (Obj.cells #[es,.int .i64 (min (es+ec) s-es),ef,ep,.bool eb] 139)).alloc b48 (Obj.cells #[es,.int .i64 (min (es+ec) s-es),ef,ep,.bool eb] 139)).grown hgrow b48 (fun x hx=>(HO.out.lt x hx).1);have hOn:w9.ownsRow w.heap.size 139 5 vw9 (L++[(Ar.mk es (min (es+ec) s-es) ef ep eb)]).length (flat (L++[(Ar.mk es (min (es+ec) s-es) ef ep eb)])):=by
       exact cl31
      have hE9:=(((Blk.new wr es ec ef ep eb).below (Br.alloc Nr (Obj.cells #[es,.int .i64 (min (es+ec) s-es),ef,ep,.bool eb] 139))).below (Br.alloc Nr (Obj.cells #[es,.int .i64 (min (es+ec) s-es),ef,ep,.bool eb] 139))).grown hgrow (fun h=>HAN.out _ h.symm rfl);clear hown' hgrow HB HO HAN k0 k1 k2 k3 k4;generalize wr.heap.size=A at *;have HB:=Hd hBn;have HO:=Hd hOn;clear hBn hOn;have hbs:=HB.out.size;rw [if_pos hc1] at HOS;by_cases hc2:s+n<es+ec
      ·rw [if_pos hc2] at HOS;have hl2:=HLL.out (Ar.mk es (min (es+ec) s-es) ef ep eb);generalize (L++[(Ar.mk es (min (es+ec) s-es) ef ep eb)])=L2 at *;have m0:=hE9.c0;have m1:=hE9.c1;have m2:=hE9.c2;have m3:=hE9.c3;have m4:=hE9.c4;have m5:=hE9.hi;simp only at m0 m1 m2 m3 m4;go_wp2_with (at_builtin;refine wpList_append_own _ rfl _ _ 106 rfl w.heap.size 139 i0 _ 5 40 Tryz.underlying106 hi hz0 hz1 hz2 rfl b14 _ _ _ rfl ((HO.out.alloc (Obj.cells #[.int .i64 (max es (s+n)),.int .i64 (es+ec-max es (s+n)),ef,.int .i64 (ep+(max es (s+n)-es)),.bool eb] 139)).alloc (Obj.cells #[.int .i64 (max es (s+n)),.int .i64 (es+ec-max es (s+n)),ef,.int .i64 (ep+(max es (s+n)-es)),.bool eb] 139)) ⟨w9.heap.size+1,0,none⟩ 1 1 [.int .i64 (max es (s+n)),.int .i64 (es+ec-max es (s+n)),ef,.int .i64 (ep+(max es (s+n)-es)),.bool eb] rfl rfl ?c1 ?c2 ?c3 ?c4 ?c5 ?_)
       try
        (case c1=>
         intro j u hj;rw [Addr.add_lit];exact cells_at ((Blk.snd w9 _ (max es (s+n)) (es+ec-max es (s+n)) ef (ep+(max es (s+n)-es)) eb)) j u hj)
       case c2=>
        exact cl66
       case c3=>unfold maxLen;(try simp);omega
       case c4=>(try simp);omega
       case c5=>have:=HB.out.size;simp;omega
       intro vw10 w10 hown' hgrow _;have hBn:=((HB.out.alloc HB.out.size (Obj.cells #[.int .i64 (max es (s+n)),.int .i64 (es+ec-max es (s+n)),ef,.int .i64 (ep+(max es (s+n)-es)),.bool eb] 139)).alloc b48 (Obj.cells #[.int .i64 (max es (s+n)),.int .i64 (es+ec-max es (s+n)),ef,.int .i64 (ep+(max es (s+n)-es)),.bool eb] 139)).grown hgrow b48 (fun x hx=>(HO.out.lt x hx).1);have hOn:w10.ownsRow w.heap.size 139 5 vw10 (L2++[(Ar.mk (max es (s+n)) (es+ec-max es (s+n)) ef (ep+(max es (s+n)-es)) eb)]).length (flat (L2++[(Ar.mk (max es (s+n)) (es+ec-max es (s+n)) ef (ep+(max es (s+n)-es)) eb)])):=by
        exact cl31
       clear hown' hgrow HB HO m0 m1 m2 m3 m4 m5 hE9;have HB:=Hd hBn;have HO:=Hd hOn;clear hBn hOn;exact cl46
      ·rw [if_neg hc2,List.append_nil] at HOS;have hc2':es+ec≤s+n:=b10;exact cl46
     ·have hc1':s≤es:=b10;rw [if_neg hc1,List.append_nil] at HOS;by_cases hc2:s+n<es+ec
      ·rw [if_pos hc2] at HOS;go_wp2_with (at_builtin;refine wpList_append_own _ rfl _ _ 106 rfl w.heap.size 139 i0 _ 5 40 Tryz.underlying106 hi hz0 hz1 hz2 rfl b14 _ _ _ rfl (((HO.out.alloc (Obj.cells #[es,ec,ef,ep,.bool eb] 139)).alloc (Obj.cells #[.int .i64 (max es (s+n)),.int .i64 (es+ec-max es (s+n)),ef,.int .i64 (ep+(max es (s+n)-es)),.bool eb] 139)).alloc (Obj.cells #[.int .i64 (max es (s+n)),.int .i64 (es+ec-max es (s+n)),ef,.int .i64 (ep+(max es (s+n)-es)),.bool eb] 139)) ⟨wr.heap.size+1+1,0,none⟩ 1 1 [.int .i64 (max es (s+n)),.int .i64 (es+ec-max es (s+n)),ef,.int .i64 (ep+(max es (s+n)-es)),.bool eb] rfl rfl ?c1 ?c2 ?c3 ?c4 ?c5 ?_)
       try
        (case c1=>
         intro j u hj;rw [Addr.add_lit];exact cells_at (Blk.third wr _ _ (max es (s+n)) (es+ec-max es (s+n)) ef (ep+(max es (s+n)-es)) eb) j u hj)
       case c2=>
        exact cl66
       case c3=>unfold maxLen;(try simp);omega
       case c4=>(try simp);omega
       case c5=>have:=HB.out.size;simp;omega
       intro vw9 w9 hown' hgrow _;have hBn:=(((HB.out.alloc HB.out.size (Obj.cells #[es,ec,ef,ep,.bool eb] 139)).alloc b48 (Obj.cells #[.int .i64 (max es (s+n)),.int .i64 (es+ec-max es (s+n)),ef,.int .i64 (ep+(max es (s+n)-es)),.bool eb] 139)).alloc b48 (Obj.cells #[.int .i64 (max es (s+n)),.int .i64 (es+ec-max es (s+n)),ef,.int .i64 (ep+(max es (s+n)-es)),.bool eb] 139)).grown hgrow b48 (fun x hx=>(HO.out.lt x hx).1);have hOn:w9.ownsRow w.heap.size 139 5 vw9 (L++[(Ar.mk (max es (s+n)) (es+ec-max es (s+n)) ef (ep+(max es (s+n)-es)) eb)]).length (flat (L++[(Ar.mk (max es (s+n)) (es+ec-max es (s+n)) ef (ep+(max es (s+n)-es)) eb)])):=by
        exact cl31
       clear hown' hgrow HB HO HAN k0 k1 k2 k3 k4;have HB:=Hd hBn;have HO:=Hd hOn;clear hBn hOn;exact cl46
      ·rw [if_neg hc2,List.append_nil] at HOS;have hc2':es+ec≤s+n:=b10;exact cm47
    ·obtain rfl:k=l.length:=b10;have hol:=outTo_len l s n l.length;generalize outTo l s n l.length=L at *;obtain ⟨b7,c7,rfl,_,hr7⟩:=ARow.ofOwn HO.out;have HR7:=Hd hr7;clear hr7;by_cases h8:8<L.length
     ·rw [if_pos h8] at HVV;have h8':(8:Int)<(L.length:Int):=b10;exact cl73
     ·rw [if_neg h8] at HVV;have h8':(L.length:Int)≤8:=b10;go_wp2_with fail;go_ret2;exact ⟨b7,c7,by rw [HVV.out];rfl,Or.inl (by rw [HVV.out];exact HR7.out),HB.out⟩):p:=h
theorem km38 {p : Prop} (h:p:=by
 have HROW:Hid (∀W,Below w w W→ARow 0 a cap l W):=fun W hb=>(h.below hb).mono (Nat.zero_le _);have HCK:=Hd (checkR_any B a l cap w h hl);exact cm19):p:=h
theorem km47 {p : Prop} (h:p:=by
 go_roundw
 case rel=>exact ⟨k+1,by omega,by go_num,HB2,by rw [HOS.out];exact HO2⟩
 case measure=>simp [intOf];omega):p:=h
end Ak18
open Ak18 in
set_option maxHeartbeats 8000000 in
theorem unmapR_any (B:Nat) (a:Option Addr) (l:List Ar) (cap:Nat) (s n:Int) (w:World) (h:ARow B a cap l w) (hl:l.length≤100):
 Calls Tryz.prog 33 #[.slice a l.length cap,s,n] w fun e w'=>∃b c,e=.returned (.tuple #[.slice b (unmapV l s n).1.length c,(unmapV l s n).2])∧(ARow w.heap.size b c (unmapV l s n).1 w'∨(b=a∧c=cap∧(unmapV l s n).1=l))∧Below w w w':=by
 exact cm38
end Go.Proofs.YtimhaidiclbnhaaGreat.Ara
