import Derived.Test.YtimhaidiclbnhaaGreatP32
import Derived.Test.YtimhaidiclbnhaaGreatP33
import Derived.Test.YtimhaidiclbnhaaGreatP34
import Derived.Test.YtimhaidiclbnhaaGreatP35
set_option linter.unusedSimpArgs false
set_option linter.unusedVariables false
set_option maxRecDepth 100000
open Go.ChangeShapes Go.WideShapes Go.ChangeAt Go.RowKit
namespace Go.Proofs.YtimhaidiclbnhaaGreat.Ver
open Des (Dv De Dn DIn DBlk DAns Vi At RowOf ints DSz)
open Ara (Ar ARow)
open Con (StrRow)
namespace Apwi
theorem km0 {p : Prop} (h:p:=by
 have t0:=HL.out.t.cell 0 (.int .i64 9) b26;have hpI:(p:Int)<(s.scr.length:Int):=b10;have hnS:(s.scr.length:Int)≤1000:=by have:=HOK.out.ns;omega
 clear hqF hfI hnI;obtain ⟨wv,hwv⟩:∃wv,o.wr=wv:=⟨_,rfl⟩
 rw [hwv] at HE;have HWV:=Hd hwv;clear hwv;go_upto_region 59 with (fail)
 go_cut [292] from 283 to 292 (fun s292 wx=>s292=.bool (!rb||(wv&&!wb))∧Hid (Lc true q B W wx l {l with ex:=W.heap.size::(W.heap.size+1)::Kb::l.ex} s Kb cs [I,I,J] [D.fi,D.fl,D.f,D.cu,D.rf]))
 case first=>as_aux_lemma=>
  clear t0 HE HR HMA HRO HM0;have t8:=HL.out.t.cell 8 (.bool wv) (by rw [HCS.out,←HWV.out];rfl);cases rb<;>cases wv<;>cases wb
  all_goals
   go_wp2_with fail;go_meet;exact ⟨rfl,HL⟩
 case rest=>
 obtain ⟨rfl,HL2⟩:=hcut;replace HL:=HL2;clear HL2 t0;have HFA:Hid (andV D.fl 1=0↔rb=false):=Hd (by rw [←HRB.out];simp);have HFB:Hid (andV D.fl 2=0↔wb=false):=Hd (by rw [←HWB.out];simp);by_cases hcw:(!rb||(wv&&!wb))=true
 ·rw [hcw];have hPR:PR=(badR 13,s):=by
   by_cases h1:andV D.fl 1=0
   ·exact HE.out.trans (if_pos h1)
   ·have h2:rb=true:=by simpa using fun e=>h1 (HFA.out.2 e)
    rw [h2] at hcw;have h3:wv=true∧wb=false:=by simpa using hcw
    exact HE.out.trans ((if_neg h1).trans (if_pos ⟨h3.1,HFB.out.2 h3.2⟩))
  subst hPR;clear HE hcw;have HZ9:Hid (Z=s):=Hd (HZ.out.trans b11);clear HZ;exact cl5
 ·have hcw2:(!rb||(wv&&!wb))=false:=by simpa using hcw
  rw [hcw2];have h1:¬andV D.fl 1=0:=fun e=>hcw (by rw [HFA.out.1 e];rfl);have h2:¬(wv=true∧andV D.fl 2=0):=fun e=>hcw (by rw [e.1,HFB.out.1 e.2];simp);have HE2:=HE.out.trans ((if_neg h1).trans (if_neg h2));clear HE;have HE:=Hd HE2;clear HE2;clear h1 h2 hcw hcw2 HFA HFB HRB HWB;have HA1:=Hd (fun W'=>HM0.out ⟨0,o.len,(f:Int),o.pg,wv⟩ W');clear HM0;generalize (Ara.mapRV [] (⟨0,o.len,(f:Int),o.pg,wv⟩:Ar)).1.length=L1 at *;generalize (Ara.mapRV [] (⟨0,o.len,(f:Int),o.pg,wv⟩:Ar)).2=E1 at *;have t5:=HL.out.t.cell 5 (.int .i64 o.len) b13;have t6:=HL.out.t.cell 6 (.int .i64 o.pg) b13;have t8:=HL.out.t.cell 8 (.bool wv) (by rw [HCS.out,←HWV.out];rfl);have k0:=HL.out.k.cell 0 (.int .i64 (f:Int)) b18;go_upto_region 62 with (fail)
  have HLa:=HL;have HA5:=Hd (At.new wc [I,o.len,f,o.pg,.bool wv] 139);have HB5:Hid (Below wc wc (wc.alloc (.cells ([I,o.len,f,o.pg,.bool wv]:List Value).toArray 139))):=Hd (Br.alloc Nr _);clear t5 t6 t8 k0;generalize wc.alloc (Obj.cells #[I,o.len,f,o.pg,.bool wv] 139)=w3 at *;generalize hY:wc.heap.size=Y at *;obtain ⟨⟨a0',a1',a2',a3',a4'⟩,_,_⟩:=Des.At.five HA5.out;go_wp2_with fail;refine (HA1.out _).mono ?_;rintro e w5 ⟨b1,c1,rfl,hb⟩;replace HA5:=Hd (HA5.out.below hb HA5.out.hi);replace HB5:Hid (Below Y wc w5):=Hd (HB5.out.trans (hb.mono (by have:=HB5.out.size;omega)));replace HL:=Hd (HLa.out.below (by rw [hY];exact HB5.out));clear hb HA1 a0' a1' a2' a3' a4';by_cases hu:E1=0
  ·subst hu;have HE2:=HE.out.trans (if_neg b11);clear HE;have HE:=Hd HE2;clear HE2;generalize (Ara.roomV (s.ar.getD p []) o.len).1=RM at *;generalize (Ara.roomV (s.ar.getD p []) o.len).2=RK at *;have HA2:=Hd (fun E W'=>HMA.out E ⟨RM,o.len,(f:Int),o.pg,wv⟩ W');clear HMA;generalize (Ara.mapRV (s.ar.getD p []) (⟨RM,o.len,(f:Int),o.pg,wv⟩:Ar)).2=E2 at *;generalize (Ara.mapRV (s.ar.getD p []) (⟨RM,o.len,(f:Int),o.pg,wv⟩:Ar)).1=L2 at *;generalize (s.ar.getD p []).length=la at *;go_upto_region 65 with (fail)
   have HLb:=HL;go_cut [28,29] from 311 to 323 (fun s28 s29 wx=>s28=.int .i64 RM∧s29=.bool RK∧Hid (Below w5 w5 wx))
   case first=>as_aux_lemma=>
    replace HL:=Hd (HL.out.below Br.drew);have t5:=HL.out.t.cell 5 (.int .i64 o.len) b13;have mR:w5.drew.cell? (l.M 23)=some (.slice (some (l.R 0)) s.scr.length s.scr.length):=HL.out.m.cR;have r0:=(HR.out _ _ HL.out.m).1;go_region_held3 (fun w'=>w'.cell? (W 0 5)=some (o.len:U)∧w'.cell? (l.M 23)=some (.slice (some (l.R 0)) s.scr.length s.scr.length)∧w'.cell? (l.R p)=some (.slice a0 la c0)) (go_keep) (first|(go_at_call 62;refine (HRO.out _ _ HL.out.m).mono ?_;rintro e w2 ⟨rfl,hb⟩;have HB9:=Hd hb;replace HL:=Hd (HL.out.below hb);clear hb t5 mR r0;have t5:=HL.out.t.cell 5 (.int .i64 o.len) b13;have mR:w2.cell? (l.M 23)=some (.slice (some (l.R 0)) s.scr.length s.scr.length):=HL.out.m.cR;have r0:=(HR.out _ _ HL.out.m).1))
    all_goals
     go_wp2_with fail;go_meet;exact ⟨rfl,rfl,Hd ((Below.refl w5 w5).drew.trans HB9.out)⟩
   case rest=>
   obtain ⟨rfl,rfl,HB6⟩:=hcut;replace HA5:=Hd (HA5.out.below HB6.out HA5.out.hi);replace HB5:Hid (Below Y _ _):=Hd (HB5.out.trans (HB6.out.mono (by have:=HB5.out.size;omega)));clear HB6 HLb HRO HL;obtain ⟨⟨a0',a1',a2',a3',a4'⟩,⟨z0,_,_,_,_⟩,ah⟩:=Des.At.five HA5.out;go_upto_region 67 with (fail)
   replace HA5:=Hd (HA5.out.set 0 (.int .i64 RM));replace HB5:=Hd (HB5.out.setCell (p:=(Y 0)) Nr (.int .i64 RM));clear a0' a1' a2' a3' a4' z0 ah;generalize World.setCell _ ⟨Y,0,none⟩ (.int .i64 RM)=w6 at *;have HL:=Hd (HLa.out.below (by rw [hY];exact HB5.out));go_cut [30,31] from 326 to 337 (fun s30 s31 wx=>∃b2 c2,s30=.slice b2 L2.length c2∧s31=.int .i64 E2∧Hid (ARow 0 b2 c2 L2 wx)∧Hid (∀g,b2=some g→g.block∉vx {l with ex:=W.heap.size::(W.heap.size+1)::Kb::l.ex})∧Hid (Lc true q B W wx l {l with ex:=W.heap.size::(W.heap.size+1)::Kb::l.ex} s Kb cs [I,I,J] [D.fi,D.fl,D.f,D.cu,D.rf]))
   case first=>as_aux_lemma=>
    replace HL:=Hd (HL.out.below Br.drew);replace HA5:Hid (At w6.drew Y [RM,o.len,f,o.pg,.bool wv]):=Hd (Des.At.drew HA5.out);obtain ⟨⟨a0',a1',a2',a3',a4'⟩,_,_⟩:=Des.At.five HA5.out;have mR:w6.drew.cell? (l.M 23)=some (.slice (some (l.R 0)) s.scr.length s.scr.length):=HL.out.m.cR;have r0:=(HR.out _ _ HL.out.m).1;go_region_held3 (fun w'=>w'.cell? (Y 0)=some (RM:U)∧w'.cell? (Y 1)=some (o.len:U)∧w'.cell? (Y 2)=some (f:U)∧w'.cell? (Y 3)=some (o.pg:U)∧w'.cell? (Y 4)=some (.bool wv)∧w'.cell? (l.M 23)=some (.slice (some (l.R 0)) s.scr.length s.scr.length)∧w'.cell? (l.R p)=some (.slice a0 la c0)) (go_keep) (first|(go_at_call 61;refine (HA2.out _ _ HL.out.m).mono ?_;rintro e w2 ⟨b2,c2,rfl,har,hnv,hb⟩;have HAR:=Hd har;have HNV:=Hd hnv;replace HL:=Hd (HL.out.below hb);replace HA5:=Hd (HA5.out.below hb HA5.out.hi);clear har hnv hb a0' a1' a2' a3' a4' mR r0;obtain ⟨⟨a0',a1',a2',a3',a4'⟩,_,_⟩:=Des.At.five HA5.out;have mR:w2.cell? (l.M 23)=some (.slice (some (l.R 0)) s.scr.length s.scr.length):=HL.out.m.cR;have r0:=(HR.out _ _ HL.out.m).1))
    all_goals
     go_wp2_with fail;go_meet;exact ⟨b2,c2,rfl,rfl,HAR,HNV,HL⟩
   case rest=>
   obtain ⟨b2,c2,rfl,rfl,HAR,HNV,HL2⟩:=hcut;replace HL:=HL2;clear HL2 HA2 HLa HA5 HB5;by_cases hbad:RK=false∨E2≠0
   ·skip
    obtain rfl:PR=_:=HE.out.trans (if_pos hbad);clear HE;have HZ9:Hid (Z=s):=Hd (HZ.out.trans b11);clear HZ;cases RK
    ·exact cl26
    ·have hE2:(E2==0)=false:=by simpa using hbad
     exact cl26
   ·skip
    obtain rfl:PR=_:=HE.out.trans (if_neg hbad);clear HE;obtain rfl:RK=true:=by cases RK with|false=>exact absurd (Or.inl rfl) hbad|true=>rfl
    obtain rfl:E2=0:=Classical.not_not.1 fun e=>hbad (Or.inr e)
    clear hbad;cases b
    ·exact cm59
    ·skip
     have HZ9:Hid (Z={s with ar:=s.ar.set p L2}):=Hd (HZ.out.trans b11);clear HZ;obtain ⟨r0,r1,r2⟩:=HR.out _ _ HL.out.m;have mR:=HL.out.m.cR;change World.cell? _ ⟨l.M,23,none⟩=some (.slice (some (l.R 0)) s.scr.length s.scr.length) at mR;go_upto_region 72 with (fail)
     generalize hw3:World.setCell _ ⟨l.R,p,none⟩ (.slice b2 L2.length c2)=w9' at *;have HL3:Hid (Lc false q B W w9' l {l with ex:=W.heap.size::(W.heap.size+1)::Kb::l.ex,ar:=l.ar.set p ⟨b2,c2⟩} {s with ar:=s.ar.set p L2} Kb cs [I,I,J] [D.fi,D.fl,D.f,D.cu,D.rf]):=by rw [←hw3];exact Hd (HL.out.stepA _ ⟨HL.out.m.g.putR p hpa b2 c2 L2 HAR.out HNV.out,HL.out.m.cf,HL.out.m.ch,HL.out.m.cs⟩ (Vk.set _ _ _ _ (mvs _).2.2.2.2.1))
     clear hw3 r0 r1 r2 mR HL;obtain ⟨⟨rc0,rc1,rc2⟩,⟨r0,r1,r2⟩,rh⟩:=At.three HL3.out.r;go_wp2_with fail;change bodyPost _ _ _ _ _ (((w9'.setCell (W 1 0) I).setCell (W 1 1) RM).setCell (W 1 2) J);generalize hwB:((w9'.setCell (W 1 0) I).setCell (W 1 1) RM).setCell (W 1 2) J=w9 at *;have HQ:Hid (At w9 (W.heap.size+1) [I,RM,J]):=by rw [←hwB];exact Hd (HL3.out.finA ⟨0,RM,⟨#[]⟩⟩ rfl)
     clear rc0 rc1 rc2 r0 r1 r2 rh;obtain ⟨⟨q0,q1,q2⟩,_,_⟩:=At.three HQ.out;exact bodyPost_ret (v:=.agg #[I,RM,J]) b22 rfl (by (try rw [HZ9.out]);rw [←hwB];exact HL3.out.fin ⟨0,RM,⟨#[]⟩⟩ rfl HEX.out b20)
  ·have hu':(E1==0)=false:=by simpa using hu
   obtain rfl:PR=_:=HE.out.trans (if_pos hu);exact cm39):p:=h
theorem km20 {p : Prop} (h:p:=by
 by_cases hz:le=0
 ·subst hz;have HE2:=HE.out.trans (if_neg b11);clear HE;have HE:=Hd HE2;clear HE2;exact cm0
 ·exact cl2):p:=h
theorem km39 {p : Prop} (h:p:=by
 exact cm70):p:=h
theorem km48 {p : Prop} (h:p:=by
 have HE:=Hd (map_eqR ok.rt okr hp (o:=o));exact cm96):p:=h
theorem km59 {p : Prop} (h:p:=by
 change bodyPost _ _ _ _ _ (((wc.setCell (W 1 0) I).setCell (W 1 1) RM).setCell (W 1 2) J);generalize hwB:((wc.setCell (W 1 0) I).setCell (W 1 1) RM).setCell (W 1 2) J=w9 at *;have HQ:Hid (At w9 (W.heap.size+1) [I,RM,J]):=by rw [←hwB];exact Hd (HL.out.finA ⟨0,RM,⟨#[]⟩⟩ rfl)
 clear rc0 rc1 rc2 r0 r1 r2 rh;obtain ⟨⟨q0,q1,q2⟩,_,_⟩:=At.three HQ.out;exact bodyPost_ret (v:=.agg #[I,RM,J]) b22 rfl (by (try rw [HZ9.out]);rw [←hwB];exact HL.out.fin ⟨0,RM,⟨#[]⟩⟩ rfl HEX.out b20)):p:=h
theorem km70 {p : Prop} (h:p:=by
 exact cl6):p:=h
theorem km75 {p : Prop} (h:p:=by
 obtain ⟨Z,hZ⟩:∃Z,Z=(if b=true then (mappedR s p o).2 else s):=⟨_,rfl⟩
 rw [←hZ];have HZ:=Hd hZ;clear hZ;generalize (mappedR s p o)=PR at *;generalize Des.numE s.d p o.fd=le at *;generalize Des.lookV s.d p o.fd=D at *;generalize Des.numV s.d p o.fd=nv at *;clear hsl;exact cm20):p:=h
theorem km96 {p : Prop} (h:p:=by
 have hpa:p<s.ar.length:=by rw [ok.ar];exact hp
 obtain ⟨a0,c0,hsl⟩:∃a c,l.ar.getD p Sl.nil=⟨a,c⟩:=⟨_,_,rfl⟩
 have HM0:Hid (∀(A:Ar) W',Calls Tryz.prog 61 #[σ,.agg #[A.st,A.cn,A.fi,A.pg,.bool A.wr]] W' (fun e w'=>∃b c,e=.returned (.tuple #[.slice b (Ara.mapRV [] A).1.length c,(Ara.mapRV [] A).2])∧Below W' W' w')):=Hd fun A W'=>(Ara.mapR_any 0 none [] 0 A W' (Or.inl ⟨rfl,rfl,rfl⟩) b11).mono (by rintro e w' ⟨b,c,h1,_,h3⟩;exact ⟨b,c,h1,h3⟩);have HRO:Hid (∀(E:List Nat) W',Rm q B W' {l with ex:=E} s→Calls Tryz.prog 62 #[.slice a0 (s.ar.getD p []).length c0,o.len] W' (RetW (.tuple #[(Ara.roomV (s.ar.getD p []) o.len).1,.bool (Ara.roomV (s.ar.getD p []) o.len).2]) W')):=Hd fun E W' hm=>by
  have h1:=hm.g.im.ra p hpa;rw [show ({l with ex:=E}:Ly).ar.getD p Sl.nil=⟨a0,c0⟩ from hsl] at h1;exact Ara.roomR_any 0 a0 (s.ar.getD p []) c0 o.len W' h1.1 (ok.al p)
 have HMA:Hid (∀(E:List Nat) (A:Ar) W',Rm q B W' {l with ex:=E} s→Calls Tryz.prog 61 #[.slice a0 (s.ar.getD p []).length c0,.agg #[A.st,A.cn,A.fi,A.pg,.bool A.wr]] W' (fun e w'=>∃b c,e=.returned (.tuple #[.slice b (Ara.mapRV (s.ar.getD p []) A).1.length c,(Ara.mapRV (s.ar.getD p []) A).2])∧ARow 0 b c (Ara.mapRV (s.ar.getD p []) A).1 w'∧(∀g,b=some g→g.block∉vx {l with ex:=E})∧Below W' W' w')):=Hd fun E A W' hm=>by
  have h1:=hm.g.im.ra p hpa;rw [show ({l with ex:=E}:Ly).ar.getD p Sl.nil=⟨a0,c0⟩ from hsl] at h1;refine (Ara.mapR_any 0 a0 (s.ar.getD p []) c0 A W' h1.1 (ok.al p)).mono ?_;rintro e w' ⟨b,c,h2,h3,h4⟩;rcases h3 with h3|⟨rfl,rfl,h3⟩
  ·exact cl62
  ·exact ⟨_,_,h2,by rw [h3];exact h1.1.below h4,fun g hg=>h1.2 g hg,h4⟩
 have HR:Hid (∀(E:List Nat) W',Rm q B W' {l with ex:=E} s→W'.cell? (l.R p)=some (.slice a0 (s.ar.getD p []).length c0)∧W'.frozen? (l.R p)=false∧l.R<W'.heap.size):=Hd fun E W' hm=>by
  have h1:=hm.g.r.cell p _ (slC_at l.ar s.ar p hpa);rw [hsl] at h1;exact ⟨h1,hm.g.r.free p (by rw [slC_len];exact hpa),hm.g.r.hi⟩
 exact cm75):p:=h
end Apwi
open Apwi in
set_option maxHeartbeats 16000000 in
theorem byd_mapped (K:Nat) (q:Rq) (B:Nat) (l:Ly) (s:St) (p:Nat) (o:Opr) (b:Bool) (W:World) (h:Rm q B W l s) (ok:Ok K s) (okr:Okr K s) (hp:p<s.scr.length) (hkd:o.kd=9):
 Calls Tryz.prog 35 #[.pointer (some (l.M 0)),p,opVal o,.bool b] W (RefP b q B W l (mappedR s p o).1 (if b=true then (mappedR s p o).2 else s)):=by
 exact cm48
theorem EvRow.open' {W:World} {v:Value} {xs:List Ev} (h:EvRow W v xs):∃ea ec,v=.slice ea xs.length ec∧∀i,i<xs.length→∃g o,ea=some ⟨g,o,none⟩∧g<W.heap.size∧xs.length≤ec∧ec≤maxLen∧∀j u,(xs.getD i Ev.zero).cells[j]? =some u→W.cell? ⟨g,o+i*9+j,none⟩=some u:=by
 rcases h with ⟨h1,h2⟩|⟨g,o,c,h1,h2,h3,h4,h5⟩
 ·subst h2;exact ⟨none,0,h1,fun i hi=>by cases hi⟩
 ·exact ⟨_,c,h1,fun i hi=>⟨g,o,rfl,h2,h3,h4,h5 i hi⟩⟩
theorem find_info:(Tryz.prog.info? 70).map (fun i=>(i.zero,i.size,i.bytes))=some (some (.agg #[I,I]),2,16):=by kernel_rfl
def FolP (W:World) (s:St) (xs:List Ev) (e:Ending) (w':World):Prop:=
 ∃(B:Nat) (l:Ly) (ov:Value),e=.returned (.tuple #[.pointer (some (l.M 0)),ov,I])∧W.heap.size≤B∧Mm B w' l (runS s xs xs.length).1∧w'.ownsRow B 70 2 ov (runS s xs xs.length).2.length (fnd (runS s xs xs.length).2)∧Below W W w'
def exB (v:Value):List Nat:=v.ownBlock.toList
namespace Aq7h
theorem km9 {p : Prop} (h:p:=by
 go_upto_region 7 with (fail)
 clear e0 e1 e2 e3 e4 e5 e6 e7 e8;go_wp2_with fail;refine (HKN.out B l x _ hm (HMr.out.below (Br.alloc Nr _))).mono ?_;rintro e w4 ⟨rfl,hb4⟩;have HM4:=Hd ((HMr.out.below (Br.alloc Nr _)).below hb4);have HB4:=Hd ((HBr.out.alloc HBr.out.size _).trans (hb4.mono (by rw [Des.alloc_size];have:=HBr.out.size;omega)));clear hb4;go_wp2_with fail;go_roundw
 case rel=>exact ⟨k+1,by omega,by go_num,HM4,HB4⟩
 case measure=>simp [intOf];omega):p:=h
end Aq7h
open Aq7h in
set_option maxHeartbeats 40000000 in
theorem follow_any (n:Nat) (pa:Option Addr) (pc:Nat) (scr:List (List Opr)) (sa:Option Addr) (scp ns:Nat) (a:Option Addr) (c:Nat) (lst:List ByteArray) (v:Value) (xs:List Ev) (W:World)
 (hsc:ScIn W.heap.size W (.slice sa ns scp) scr) (hns:scr.length=ns) (hn:n≤1000) (hns8:1≤ns∧ns≤8) (hl:StrRow 0 a c lst W) (hlen:lst.length≤n) (hsz:∀s,s∈lst→s.size≤128) (ho:OpsOK scr)
 (hv:EvRow W v xs) (hx:xs.length≤1000) (hk:∀x,x∈xs→knB (begS scr n lst) x=true):
 Calls Tryz.prog 19 #[.agg (cfgC (.slice pa n pc) (.slice sa ns scp)).toArray,.slice a lst.length c,v] W (FolP W (begS scr n lst) xs):=by
 obtain ⟨ea,ec,rfl,hcell⟩:=hv.open';have hok:Ok 0 (begS scr n lst):=ok_beg scr n lst hn b10 hsz ho;have HBG:Hid (∀W',Below W W W'→Calls Tryz.prog 23 #[.agg (cfgC (.slice pa n pc) (.slice sa ns scp)).toArray,.slice a lst.length c] W' (BegP W' (.slice pa n pc) (.slice sa ns scp) scr n lst)):=Hd fun W' hb=>by
  refine begin_any n pa pc scr sa scp ns a c lst W' ?_ hns hn hns8 (Con.StrRow.below hl hb) hlen hsz;obtain ⟨g,o,c2,h1,h2,h3,h4,h5⟩:=hsc.below hb;exact cl78
 have HKN:Hid (∀(B:Nat) (l:Ly) x W',x∈xs→Mm B W' l (begS scr n lst)→Calls Tryz.prog 24 #[.pointer (some (l.M 0)),.agg #[x.tm,x.pr,x.ix,x.fi,x.at',x.bg,x.er,x.n,.string x.dat]] W' fun e w'=>e=.returned (.bool true)∧Below W' W' w'):=Hd fun B l x W' hxm hm=>by
  have h1:=known_any B l (begS scr n lst) x W' hm hok.nf hok.ns;rw [hk x hxm] at h1;exact h1
 have HTK:Hid (∀(B:Nat) (l:Ly) (M k:Nat) W',l.M=M→k<xs.length→Mm B W' l (runS (begS scr n lst) xs k).1→Calls Tryz.prog 25 #[.pointer (some (M 0)),.int .i64 (k:Int),.agg #[(xs.getD k Ev.zero).tm,(xs.getD k Ev.zero).pr,(xs.getD k Ev.zero).ix,(xs.getD k Ev.zero).fi,(xs.getD k Ev.zero).at',(xs.getD k Ev.zero).bg,(xs.getD k Ev.zero).er,(xs.getD k Ev.zero).n,.string (xs.getD k Ev.zero).dat]] W' (TakeP B W' l (runS (begS scr n lst) xs k).1 (k:Int) (xs.getD k Ev.zero))):=Hd fun B l M k W' hM hkx hm=>by
  subst hM;have hmem:xs.getD k Ev.zero∈xs:=by rw [show xs.getD k Ev.zero=xs[k] from by simp [List.getD,hkx]];exact List.getElem_mem hkx
  refine take_any k B l _ (k:Int) _ W' hm (run_ok hok xs k) b10 ?_;rw [kn_keep (run_keep _ xs k)];exact hk _ hmem
 have HMEM:Hid (∀k,k<xs.length→xs.getD k Ev.zero∈xs):=Hd fun k hkx=>by rw [show xs.getD k Ev.zero=xs[k] from by simp [List.getD,hkx]];exact List.getElem_mem hkx
 have HRL:Hid (∀k,(runS (begS scr n lst) xs k).2.length≤k):=Hd fun k=>run_len _ xs k;have HRS:Hid (∀k,runS (begS scr n lst) xs (k+1)=((takeS (runS (begS scr n lst) xs k).1 (k:Int) (xs.getD k Ev.zero)).2,(runS (begS scr n lst) xs k).2++if (takeS (runS (begS scr n lst) xs k).1 (k:Int) (xs.getD k Ev.zero)).1=0 then [] else [((k:Int),(takeS (runS (begS scr n lst) xs k).1 (k:Int) (xs.getD k Ev.zero)).1)])):=Hd fun k=>rfl;have HCELL:=Hd hcell;clear hsc hl hsz ho hv hk hok hcell hns;generalize hs0:begS scr n lst=s0 at *;have HS0:=Hd hs0;clear hs0;have HE:=Hd (At.new W (cfgC (.slice pa n pc) (.slice sa ns scp)) 44);have HBW:Hid (Below W W (W.alloc (.cells (cfgC (.slice pa n pc) (.slice sa ns scp)).toArray 44))):=Hd (Br.alloc Nr _);obtain ⟨cf,hcf⟩:∃cf,cf=cfgC (.slice pa n pc) (.slice sa ns scp):=⟨_,rfl⟩
 have HCF:=Hd hcf;rw [←hcf] at HE HBW HBG ⊢;clear hcf;have hxI:(xs.length:Int)≤1000:=b10;go_enter Tryz.func19,Tryz.ntmps19;go_upto_region 1 with (fail)
 generalize W.alloc (.cells cf.toArray 44)=W1 at *;have hsz44:(Tryz.prog.info? 44).map (·.size)=some cf.length:=by rw [HCF.out];exact size44
 go_wp2_with (with_reducible refine Des.hold_load 44 rfl ?_)
 refine Des.load_ato 0 HE.out.r Tryz.underlying44 rfl hsz44 rfl rfl rfl ?_;clear hsz44;go_wp2_with fail;refine (HBG.out _ HBW.out).mono ?_;rintro e w2 hbp;obtain ⟨l,rfl,hpl,hscl,hm2,hb2⟩:=hbp;have HM2:Hid (Mm W1.heap.size w2 l s0):=Hd (by rw [←HS0.out];exact hm2);have HB2:Hid (Below W W w2):=Hd (HBW.out.trans (hb2.mono HBW.out.size));have hWB:W.heap.size≤W1.heap.size:=HBW.out.size;clear hm2 hb2 HBG HE hpl hscl;generalize W1.heap.size=B at *;go_upto_region 4 with (fail)
 go_wp2_with fail;go_loopw [28] (fun v28 wr=>∃k:Nat,k≤xs.length∧v28=.int .i64 k∧Hid (Mm B wr l s0)∧Hid (Below W W wr)) (fun v28 _=>xs.length-(intOf v28).toNat)
 case atStart=>exact ⟨0,Nat.zero_le _,rfl,HM2,HB2⟩
 case round=>
  obtain ⟨k,hk,rfl,HMr,HBr⟩:=hrel;clear HM2 HB2;by_cases hlt:k<xs.length
  ·have hltI:(k:Int)<(xs.length:Int):=b10;obtain ⟨g,o,rfl,hg,hec,hec2,hcs⟩:=HCELL.out k hlt;have hecI:(xs.length:Int)≤(ec:Int):=b10;have hm:=HMEM.out k hlt;have HC:Hid (∀j u,(xs.getD k Ev.zero).cells[j]? =some u→wr.cell? ⟨g,o+k*9+j,none⟩=some u):=Hd fun j u hu=>(HBr.out.cell (p:=⟨g,o+k*9+j,none⟩) hg).trans (hcs j u hu);clear hcs;generalize xs.getD k Ev.zero=x at *;exact cm9
  ·have hltI:¬(k:Int)<(xs.length:Int):=b10;clear HKN hk;go_upto_region 11 with (fail)
   go_wp2_with fail;have HM0:Hid (Mm B wr {l with ex:=exB (.slice none 0 0)} s0):=Hd (HMr.out.grow (row:=none) ⟨rfl,rfl,rfl,Nat.le_refl _,fun _ _ _=>rfl⟩ (fun g h=>by cases h) [] (fun b hb=>by cases hb));clear HMr;go_loopw [13,39] (fun v13 v39 wr=>∃(ov:Value) (k:Nat) (l2:Ly),ov=v13∧k≤xs.length∧v39=.int .i64 k∧Hid (l2.M=l.M∧l2.ex=exB ov∧∀g,g∈l2.ex→g∉vs l2)∧Hid (Mm B wr l2 (runS s0 xs k).1)∧Hid (wr.ownsRow B 70 2 ov (runS s0 xs k).2.length (fnd (runS s0 xs k).2))∧Hid (Below W W wr)) (fun _ v39 _=>xs.length-(intOf v39).toNat)
   case atStart=>exact ⟨_,0,{l with ex:=exB (.slice none 0 0)},rfl,Nat.zero_le _,rfl,⟨rfl,rfl,fun g h=>by cases h⟩,HM0,World.ownsRow_nil _ _ 70 2,HBr⟩
   case round=>
    skip
    clear HM0 HBr hltI;obtain ⟨ov,k,l2,rfl,hk,rfl,HL2,HMr,HOW,HBr⟩:=hrel;by_cases hlt:k<xs.length
    ·have hltI:(k:Int)<(xs.length:Int):=b10;obtain ⟨g,o,rfl,hg,hec,hec2,hcs⟩:=HCELL.out k hlt;have hecI:(xs.length:Int)≤(ec:Int):=b10;have HC:Hid (∀j u,(xs.getD k Ev.zero).cells[j]? =some u→wr.cell? ⟨g,o+k*9+j,none⟩=some u):=Hd fun j u hu=>(HBr.out.cell (p:=⟨g,o+k*9+j,none⟩) hg).trans (hcs j u hu);have HT:=Hd (HTK.out B l2 l.M k _ HL2.out.1 hlt (HMr.out.below ((Below.refl wr wr).alloc Nr (Obj.cells (xs.getD k Ev.zero).cells.toArray 64))));have HRK:=Hd (HRS.out k);have hrl:=HRL.out k;clear hcs;generalize hTV:takeS (runS s0 xs k).1 (k:Int) (xs.getD k Ev.zero)=T at HRK;have HTV:=Hd hTV;clear hTV;obtain ⟨tk,s'⟩:=T;generalize hx0:xs.getD k Ev.zero=x at *;have HX0:=Hd hx0;clear hx0;obtain ⟨e0,e1,e2,e3,e4,e5,e6,e7,e8⟩:wr.cell? ⟨g,o+k*9,none⟩=some (x.tm:U)∧wr.cell? ⟨g,o+k*9+1,none⟩=some (x.pr:U)∧wr.cell? ⟨g,o+k*9+2,none⟩=some (x.ix:U)∧wr.cell? ⟨g,o+k*9+3,none⟩=some (x.fi:U)∧wr.cell? ⟨g,o+k*9+4,none⟩=some (x.at':U)∧wr.cell? ⟨g,o+k*9+5,none⟩=some (x.bg:U)∧wr.cell? ⟨g,o+k*9+6,none⟩=some (x.er:U)∧wr.cell? ⟨g,o+k*9+7,none⟩=some (x.n:U)∧wr.cell? ⟨g,o+k*9+8,none⟩=some (.string x.dat):=⟨HC.out 0 _ rfl,HC.out 1 _ rfl,HC.out 2 _ rfl,HC.out 3 _ rfl,HC.out 4 _ rfl,HC.out 5 _ rfl,HC.out 6 _ rfl,HC.out 7 _ rfl,HC.out 8 _ rfl⟩
     unfold Ev.cells at HT;have HE2:=Hd ((HBr.out.alloc HBr.out.size (Obj.cells #[x.tm,x.pr,x.ix,x.fi,x.at',x.bg,x.er,x.n,.string x.dat] 64)));have HOW2:=Hd (Des.ownsRow_below HOW.out ((Below.refl wr wr).alloc Nr (Obj.cells #[x.tm,x.pr,x.ix,x.fi,x.at',x.bg,x.er,x.n,.string x.dat] 64)));have HMx:=Hd (HMr.out.below ((Below.refl wr wr).alloc Nr (Obj.cells #[x.tm,x.pr,x.ix,x.fi,x.at',x.bg,x.er,x.n,.string x.dat] 64)));go_upto_region 14 with (fail)
     clear e0 e1 e2 e3 e4 e5 e6 e7 e8;go_wp2_with fail;refine HT.out.mono ?_;rintro e w5 htp;obtain ⟨l3,rfl,htk⟩:=htp;rw [HTV.out] at htk;have hxl:∀g,g∈l3.ex→g∉vs l3:=fun g hg3 hm=>by
      have h1:g∈l2.ex:=by rw [←htk.ex];exact hg3
      rcases htk.n g hm with h2|h2
      ·exact HL2.out.2.2 g h1 h2
      ·have:=(HMx.out.hx g h1).1;omega
     have HL3:Hid (l3.M=l.M∧l3.ex=exB ov∧∀g,g∈l3.ex→g∉vs l3):=Hd ⟨htk.M.trans HL2.out.1,htk.ex.trans HL2.out.2.1,hxl⟩;have HM5:Hid (Mm B w5 l3 s'):=Hd htk.m;have HOW5:Hid (w5.ownsRow B 70 2 ov (runS s0 xs k).2.length (fnd (runS s0 xs k).2)):=Hd (own_keepB HOW2.out fun q hq=>htk.v.block q (HL2.out.2.2 q (by rw [HL2.out.2.1];unfold exB;rw [hq];simp)) (HOW2.out.lt q hq).2);have HB5:Hid (Below W W w5):=Hd (HE2.out.trans (htk.v.below HE2.out.size (fun b hb=>Nat.le_trans hWB (HMx.out.lo b hb))));rw [HTV.out];clear htk hxl HT HE2 HOW2 HMx HMr HOW HBr HL2
     skip
     by_cases hz:tk=0
     ·subst hz;go_wp2_with fail;go_roundw
      case rel=>exact ⟨ov,k+1,l3,rfl,by omega,by go_num,HL3,by rw [HRK.out];exact HM5,by rw [HRK.out];simpa using HOW5,HB5⟩
      case measure=>simp [intOf];omega
     ·have hz1:(tk !=0)=true:=by simpa using hz
      have hz2:(tk==0)=false:=by simpa using hz
      obtain ⟨i0,hi,hz0,hzs,hzb⟩:=info_parts find_info;have HI:=Hd hi;have HZ:=Hd hz0;have HZS:=Hd hzs;have HZB:=Hd hzb;have HOW6:=Hd (Des.ownsRow_below HOW5.out ((Below.refl w5 w5).alloc Nr (Obj.cells #[.int .i64 (k:Int),tk] 70)));have HM6:=Hd (HM5.out.below ((Below.refl w5 w5).alloc Nr (Obj.cells #[.int .i64 (k:Int),tk] 70)));have HB6:=Hd (HB5.out.alloc HB5.out.size (Obj.cells #[.int .i64 (k:Int),tk] 70));have HN6:Hid (∀j u,([.int .i64 (k:Int),tk]:List Value)[j]? =some u→(w5.alloc (Obj.cells #[.int .i64 (k:Int),tk] 70)).cell? ((⟨w5.heap.size,0,none⟩:Addr).add j)=some u):=Hd (World.news_of_block (Go.heap_alloc_new w5 _));have hs6:(w5.alloc (Obj.cells #[.int .i64 (k:Int),tk] 70)).heap.size=w5.heap.size+1:=Des.alloc_size _ _;have HS6:=Hd hs6;have hB6:B≤w5.heap.size+1:=by have:=HM5.out.hB;omega
      generalize hfl:(runS s0 xs k).2=fl at *;clear hfl hi hz0 hzs hzb hs6;go_wp2_with (at_builtin;refine wpList_append_lies _ rfl _ _ _ rfl B 70 i0 (.agg #[I,I]) 2 16 Tryz.underlying54 HI.out HZ.out HZS.out HZB.out rfl b10 ov fl.length (fnd fl) rfl HOW6.out ⟨w5.heap.size,0,none⟩ 1 1 [.int .i64 (k:Int),tk] rfl rfl HN6.out b29 b10 b17 b10 (by rw [HS6.out];exact hB6) (w5.heap.size+1) HS6.out ?_;intro gn cap w7 hown hgrow hat hlt7;have HOW7:=Hd hown;have HGR:=Hd hgrow;have HAT:=Hd hat;have HLT:=Hd hlt7;clear hown hgrow hat hlt7)
      have hrow:∀q,ov.ownBlock=some q→q∈l3.ex∧q∉vs l3:=fun q hq=>by
       have h1:q∈l3.ex:=by rw [HL3.out.2.1];unfold exB;rw [hq];simp
       exact ⟨h1,HL3.out.2.2 q h1⟩
      have hgn:(gn∈l3.ex∨w5.heap.size+1≤gn)∧gn∉vs l3:=by
       rcases HAT.out with h1|h1
       ·exact ⟨Or.inl (hrow gn h1).1,(hrow gn h1).2⟩
       ·exact ⟨Or.inr b10,fun hm=>by have:=HM5.out.hi gn hm;omega⟩
      have HM7 : Hid (Mm B w7 { l3 with ex := [gn] } s') := Hd (HM6.out.grow HGR.out hrow [gn] (fun b hb=>by
       simp at hb;subst hb;exact ⟨hgn.1.imp id (fun h=>by rw [HS6.out];exact h),HLT.out⟩))
      have HB7:Hid (Below W W w7):=Hd (HB6.out.grown HGR.out HB6.out.size (fun q hq=>Nat.le_trans hWB (HOW5.out.lt q hq).1));have HL7:Hid (({l3 with ex:=[gn]}:Ly).M=l.M∧({l3 with ex:=[gn]}:Ly).ex=exB (.slice (some (gn 0)) (fl.length+1) cap)∧∀g,g∈({l3 with ex:=[gn]}:Ly).ex→g∉vs {l3 with ex:=[gn]}):=Hd ⟨HL3.out.1,rfl,fun g hg=>by simp at hg;subst hg;exact hgn.2⟩;have HOW8:Hid (w7.ownsRow B 70 2 (.slice (some (gn 0)) (fl.length+1) cap) (fl++[((k:Int),tk)]).length (fnd (fl++[((k:Int),tk)]))):=Hd b138;clear hrow hgn;go_wp2_with fail;go_roundw
      case rel=>exact ⟨_,k+1,{l3 with ex:=[gn]},rfl,by omega,by go_num,HL7,by rw [HRK.out];exact HM7,by rw [HRK.out,if_neg hz];exact HOW8,HB7⟩
      case measure=>simp [intOf];omega
    ·have hkn:k=xs.length:=b10;subst hkn;go_wp2_with fail;exact bodyPost_ret (v:=.tuple #[.pointer (some (l.M 0)),ov,I]) (by simp [results,Tryz.results19,go_sem]) rfl ⟨B,l2,ov,by rw [HL2.out.1],hWB,HMr.out,HOW.out,HBr.out⟩
end Go.Proofs.YtimhaidiclbnhaaGreat.Ver
