import Derived.Test.YtimhaidiclbnhaaGreatP32
import Derived.Test.YtimhaidiclbnhaaGreatP33
set_option linter.unusedSimpArgs false
set_option linter.unusedVariables false
set_option maxRecDepth 100000
open Go.ChangeShapes Go.WideShapes Go.ChangeAt Go.RowKit
namespace Go.Proofs.YtimhaidiclbnhaaGreat.Ver
open Des (Dv De Dn DIn DBlk DAns Vi At RowOf ints DSz)
open Ara (Ar ARow)
open Con (StrRow)
namespace Agov
theorem km0 {p : Prop} (h:p:=by
 have t0:=HL.out.t.cell 0 (.int .i64 3) b26;cases rb
 ·have hfl:andV D.fl 1=0:=by simpa using HRB.out
  exact cm42
 ·have hfl:¬andV D.fl 1=0:=by simpa using HRB.out
  have HE2:=HE.out.trans (if_neg hfl);clear HE;have HE:=Hd HE2;clear HE2;clear hfl;have t5:=HL.out.t.cell 5 (.int .i64 o.len) b13;by_cases hl:o.len<0∨64<o.len
  ·skip
   obtain rfl:PR=_:=HE.out.trans (if_pos hl);clear HE;have HZ9:Hid (Z=s):=Hd (HZ.out.trans b11);clear HZ;rcases hl with hl|hl
   ·skip
    exact cl3
   ·have hl2:¬o.len<0:=b10;exact cl3
  ·skip
   obtain rfl:PR=_:=HE.out.trans (if_neg hl);clear HE;have hl1:¬o.len<0:=b10;have hl2:¬64<o.len:=b10;clear hl;obtain ⟨b1,b2,_⟩:=f_r HRD.out;have HW:=Hd (fun W'=>HCA.out sd D.f W' hsd);have hTD:(Con.readV sd D.f o.len).1.size≤128:=by
    unfold Con.readV;split
    ·exact Nat.zero_le _
    split
    ·exact Nat.zero_le _
    ·rw [ByteArray.size_extract];omega
   clear HCA;generalize (Con.readV sd D.f o.len).1=TD at *;generalize (Con.readV sd D.f o.len).2=TE at *;have k2:=HL.out.k.cell 2 (.int .i64 D.f) (rfl);go_wp2_with fail;refine (HW.out _).mono ?_;rintro e w5 ⟨rfl,rfl⟩;clear HW;cases b
   ·exact cm59
   ·skip
    have HZ9:Hid (Z={s with d:=Des.updD s.d nv (D.f+(TD.size:Int)) D.cu}):=Hd (HZ.out.trans b11);clear HZ;obtain ⟨⟨k0,k1,k2,k3,k4⟩,_,_⟩:=Des.At.five HL.out.k;have hwr:wrap64 (D.f+(TD.size:Int))=D.f+(TD.size:Int):=IntWalk.wrap64_in _ b10;go_wp2_with fail;refine (offset_any q B {l with ex:=W.heap.size::(W.heap.size+1)::Kb::l.ex} (s) nv (D.f+(TD.size:Int)) D wc HL.out.m HOK.out.rt).mono ?_;rintro e w6 ⟨y,rfl,hpl,hm2,hv2⟩;have HL3:=Hd (HL.out.stepV y hm2 hv2);rw [hpl] at HL3;clear hm2 hv2 hpl k0 k1 k2 k3 k4;obtain ⟨⟨rc0,rc1,rc2⟩,⟨r0,r1,r2⟩,rh⟩:=At.three HL3.out.r;go_wp2_with fail;change bodyPost _ _ _ _ _ (((w6.setCell (W 1 0) I).setCell (W 1 1) TD.size).setCell (W 1 2) (.string TD));generalize hwB:((w6.setCell (W 1 0) I).setCell (W 1 1) TD.size).setCell (W 1 2) (.string TD)=w9 at *;have HQ:Hid (At w9 (W.heap.size+1) [I,TD.size,.string TD]):=by rw [←hwB];exact Hd (HL3.out.finA ⟨0,(TD.size:Int),TD⟩ rfl)
    clear rc0 rc1 rc2 r0 r1 r2 rh;obtain ⟨⟨q0,q1,q2⟩,_,_⟩:=At.three HQ.out;exact bodyPost_ret (v:=.agg #[I,TD.size,.string TD]) b22 rfl (by (try rw [HZ9.out]);rw [←hwB];exact HL3.out.fin ⟨0,(TD.size:Int),TD⟩ rfl HEX.out b20)):p:=h
theorem km20 {p : Prop} (h:p:=by
 by_cases hz:le=0
 ·subst hz;have HE2:=HE.out.trans (if_neg b11);clear HE;have HE:=Hd HE2;clear HE2;exact cm0
 ·exact cl2):p:=h
theorem km42 {p : Prop} (h:p:=by
 exact cl5):p:=h
theorem km48 {p : Prop} (h:p:=by
 have HE:=Hd (read_eq ok.rt okr hp (o:=o));exact cm96):p:=h
theorem km59 {p : Prop} (h:p:=by
 change bodyPost _ _ _ _ _ (((wc.setCell (W 1 0) I).setCell (W 1 1) TD.size).setCell (W 1 2) (.string TD));generalize hwB:((wc.setCell (W 1 0) I).setCell (W 1 1) TD.size).setCell (W 1 2) (.string TD)=w9 at *;have HQ:Hid (At w9 (W.heap.size+1) [I,TD.size,.string TD]):=by rw [←hwB];exact Hd (HL.out.finA ⟨0,(TD.size:Int),TD⟩ rfl)
 clear rc0 rc1 rc2 r0 r1 r2 rh;obtain ⟨⟨q0,q1,q2⟩,_,_⟩:=At.three HQ.out;exact bodyPost_ret (v:=.agg #[I,TD.size,.string TD]) b22 rfl (by (try rw [HZ9.out]);rw [←hwB];exact HL.out.fin ⟨0,(TD.size:Int),TD⟩ rfl HEX.out b20)):p:=h
theorem km75 {p : Prop} (h:p:=by
 obtain ⟨Z,hZ⟩:∃Z,Z=(if b=true then (readR s p o).2 else s):=⟨_,rfl⟩
 rw [←hZ];have HZ:=Hd hZ;clear hZ;generalize (readR s p o)=PR at *;generalize Des.numE s.d p o.fd=le at *;generalize Des.lookV s.d p o.fd=D at *;generalize Des.numV s.d p o.fd=nv at *;exact cm20):p:=h
theorem km96 {p : Prop} (h:p:=by
 have HCA:Hid (∀(sd:ByteArray) (z:Int) W',sd.size≤128→Calls Tryz.prog 57 #[.string sd,z,o.len] W' fun e w'=>e=.returned (.tuple #[.string (Con.readV sd z o.len).1,(Con.readV sd z o.len).2])∧W'=w'):=Hd fun sd z W' hs=>Con.readR_any sd z o.len W' b17;exact cm75):p:=h
end Agov
open Agov in
set_option maxHeartbeats 16000000 in
theorem byd_read (K:Nat) (q:Rq) (B:Nat) (l:Ly) (s:St) (p:Nat) (o:Opr) (b:Bool) (W:World) (h:Rm q B W l s) (ok:Ok K s) (okr:Okr K s) (hp:p<s.scr.length) (hkd:o.kd=3):
 Calls Tryz.prog 35 #[.pointer (some (l.M 0)),p,opVal o,.bool b] W (RefP b q B W l (readR s p o).1 (if b=true then (readR s p o).2 else s)):=by
 exact cm48
namespace Aon9
theorem km0 {p : Prop} (h:p:=by
 have t0:=HL.out.t.cell 0 (.int .i64 5) b26;have t4:=HL.out.t.cell 4 (.int .i64 o.off) b13;by_cases hl:o.off<0∨128<o.off
 ·skip
  obtain rfl:PR=_:=HE.out.trans (if_pos hl);clear HE;have HZ9:Hid (Z=s):=Hd (HZ.out.trans b11);clear HZ;rcases hl with hl|hl
  ·skip
   exact cl3
  ·have hl2:¬o.off<0:=b10;exact cl3
 ·skip
  obtain rfl:PR=_:=HE.out.trans (if_neg hl);clear HE;have hl1:¬o.off<0:=b10;have hl2:¬128<o.off:=b10;clear hl;cases b
  ·skip
   have HZ9:Hid (Z=s):=Hd (HZ.out.trans b11);clear HZ;exact cl14
  ·skip
   have HZ9:Hid (Z={s with d:=Des.updD s.d nv o.off D.cu}):=Hd (HZ.out.trans b11);clear HZ;obtain ⟨⟨k0,k1,k2,k3,k4⟩,_,_⟩:=Des.At.five HL.out.k;go_wp2_with fail;refine (offset_any q B {l with ex:=W.heap.size::(W.heap.size+1)::Kb::l.ex} (s) nv o.off D wc HL.out.m HOK.out.rt).mono ?_;rintro e w6 ⟨y,rfl,hpl,hm2,hv2⟩;have HL3:=Hd (HL.out.stepV y hm2 hv2);rw [hpl] at HL3;clear hm2 hv2 hpl k0 k1 k2 k3 k4;obtain ⟨⟨rc0,rc1,rc2⟩,⟨r0,r1,r2⟩,rh⟩:=At.three HL3.out.r;go_wp2_with fail;change bodyPost _ _ _ _ _ (((w6.setCell (W 1 0) I).setCell (W 1 1) I).setCell (W 1 2) J);generalize hwB:((w6.setCell (W 1 0) I).setCell (W 1 1) I).setCell (W 1 2) J=w9 at *;have HQ:Hid (At w9 (W.heap.size+1) [I,I,J]):=by rw [←hwB];exact Hd (HL3.out.finA ⟨0,0,⟨#[]⟩⟩ rfl)
   clear rc0 rc1 rc2 r0 r1 r2 rh;obtain ⟨⟨q0,q1,q2⟩,_,_⟩:=At.three HQ.out;exact bodyPost_ret (v:=.agg #[I,I,J]) b22 rfl b112):p:=h
theorem km20 {p : Prop} (h:p:=by
 by_cases hz:le=0
 ·subst hz;have HE2:=HE.out.trans (if_neg b11);clear HE;have HE:=Hd HE2;clear HE2;exact cm0
 ·exact cl2):p:=h
theorem km48 {p : Prop} (h:p:=by
 have HE:=Hd (seek_eq ok.rt okr hp (o:=o));exact cm96):p:=h
theorem km75 {p : Prop} (h:p:=by
 obtain ⟨Z,hZ⟩:∃Z,Z=(if b=true then (seekR s p o).2 else s):=⟨_,rfl⟩
 rw [←hZ];have HZ:=Hd hZ;clear hZ;generalize (seekR s p o)=PR at *;generalize Des.numE s.d p o.fd=le at *;generalize Des.lookV s.d p o.fd=D at *;generalize Des.numV s.d p o.fd=nv at *;exact cm20):p:=h
theorem km96 {p : Prop} (h:p:=by
 exact cm75):p:=h
end Aon9
open Aon9 in
set_option maxHeartbeats 16000000 in
theorem byd_seek (K:Nat) (q:Rq) (B:Nat) (l:Ly) (s:St) (p:Nat) (o:Opr) (b:Bool) (W:World) (h:Rm q B W l s) (ok:Ok K s) (okr:Okr K s) (hp:p<s.scr.length) (hkd:o.kd=5):
 Calls Tryz.prog 35 #[.pointer (some (l.M 0)),p,opVal o,.bool b] W (RefP b q B W l (seekR s p o).1 (if b=true then (seekR s p o).2 else s)):=by
 exact cm48
namespace A481
theorem km0 {p : Prop} (h:p:=by
 have t0:=HL.out.t.cell 0 (.int .i64 6) b26;cases wb
 ·have hfl:andV D.fl 2=0:=by simpa using HWB.out
  have HE2:=HE.out.trans (if_pos hfl);clear HE;have HE:=Hd HE2;clear HE2;obtain rfl:PR=_:=HE.out.trans (rfl);clear HE;have HZ9:Hid (Z=s):=Hd (HZ.out.trans b11);clear HZ;clear hfl;exact cl5
 ·have hfl:¬andV D.fl 2=0:=by simpa using HWB.out
  have HE2:=HE.out.trans (if_neg hfl);clear HE;have HE:=Hd HE2;clear HE2;clear hfl;have t4:=HL.out.t.cell 4 (.int .i64 o.off) b13;have HW:=Hd (fun W'=>HCA.out sd W' hsd);clear HCA;generalize (Con.truncV sd o.off).1=TD at *;generalize (Con.truncV sd o.off).2=TE at *;go_wp2_with fail;refine (HW.out _).mono ?_;rintro e w5 ⟨rfl,hb⟩;replace HL:=Hd (HL.out.below hb);clear hb HW t0 t4;by_cases hu:TE=0
  ·subst hu;obtain rfl:PR=_:=HE.out.trans (if_neg b11);clear HE;cases b
   ·exact cm59
   ·skip
    have HZ9:Hid (Z=chS s f TD):=Hd (HZ.out.trans b11);clear HZ;exact cl18
  ·have hu':(TE==0)=false:=by simpa using hu
   obtain rfl:PR=_:=HE.out.trans (if_pos hu);exact cm39):p:=h
theorem km20 {p : Prop} (h:p:=by
 by_cases hz:le=0
 ·subst hz;have HE2:=HE.out.trans (if_neg b11);clear HE;have HE:=Hd HE2;clear HE2;exact cm0
 ·exact cl2):p:=h
theorem km39 {p : Prop} (h:p:=by
 exact cm70):p:=h
theorem km48 {p : Prop} (h:p:=by
 have HE:=Hd (truncate_eq ok.rt okr hp (o:=o));exact cm96):p:=h
theorem km59 {p : Prop} (h:p:=by
 change bodyPost _ _ _ _ _ (((w5.setCell (W 1 0) I).setCell (W 1 1) I).setCell (W 1 2) J);generalize hwB:((w5.setCell (W 1 0) I).setCell (W 1 1) I).setCell (W 1 2) J=w9 at *;have HQ:Hid (At w9 (W.heap.size+1) [I,I,J]):=by rw [←hwB];exact Hd (HL.out.finA ⟨0,0,⟨#[]⟩⟩ rfl)
 clear rc0 rc1 rc2 r0 r1 r2 rh;obtain ⟨⟨q0,q1,q2⟩,_,_⟩:=At.three HQ.out;exact bodyPost_ret (v:=.agg #[I,I,J]) b22 rfl b129):p:=h
theorem km70 {p : Prop} (h:p:=by
 exact cl6):p:=h
theorem km75 {p : Prop} (h:p:=by
 obtain ⟨Z,hZ⟩:∃Z,Z=(if b=true then (truncateR s p o).2 else s):=⟨_,rfl⟩
 rw [←hZ];have HZ:=Hd hZ;clear hZ;generalize (truncateR s p o)=PR at *;generalize Des.numE s.d p o.fd=le at *;generalize Des.lookV s.d p o.fd=D at *;generalize Des.numV s.d p o.fd=nv at *;exact cm20):p:=h
theorem km96 {p : Prop} (h:p:=by
 have HCA:Hid (∀(sd:ByteArray) W',sd.size≤128→Calls Tryz.prog 59 #[.string sd,o.off] W' (RetW (.tuple #[.string (Con.truncV sd o.off).1,(Con.truncV sd o.off).2]) W')):=Hd fun sd W' hs=>Con.truncR_any sd o.off W' b17;exact cm75):p:=h
end A481
open A481 in
set_option maxHeartbeats 16000000 in
theorem byd_truncate (K:Nat) (q:Rq) (B:Nat) (l:Ly) (s:St) (p:Nat) (o:Opr) (b:Bool) (W:World) (h:Rm q B W l s) (ok:Ok K s) (okr:Okr K s) (hp:p<s.scr.length) (hkd:o.kd=6) (hK:K≤9000):
 Calls Tryz.prog 35 #[.pointer (some (l.M 0)),p,opVal o,.bool b] W (RefP b q B W l (truncateR s p o).1 (if b=true then (truncateR s p o).2 else s)):=by
 exact cm48
namespace Aa13
theorem km0 {p : Prop} (h:p:=by
 have t0:=HL.out.t.cell 0 (.int .i64 7) b26;cases wb
 ·have hfl:andV D.fl 2=0:=by simpa using HWB.out
  exact cm42
 ·have hfl:¬andV D.fl 2=0:=by simpa using HWB.out
  have HE2:=HE.out.trans (if_neg hfl);clear HE;have HE:=Hd HE2;clear HE2;clear hfl;go_upto_region 48 with (fail)
  go_cut [240] from 220 to 240 (fun s240 wx=>s240=.bool (decide (o.off<0∨o.len<0∨128<o.off∨128-o.off<o.len))∧Hid (Lc true q B W wx l {l with ex:=W.heap.size::(W.heap.size+1)::Kb::l.ex} s Kb cs [I,I,J] [D.fi,D.fl,D.f,D.cu,D.rf]))
  case first=>as_aux_lemma=>
   clear t0 HE hqF hfI hnI;have t4:=HL.out.t.cell 4 (.int .i64 o.off) b13;have t5:=HL.out.t.cell 5 (.int .i64 o.len) b13;by_cases c1:o.off<0
   ·have HC:=Hd c1;go_wp2_with fail;go_meet;exact ⟨by simp [HC.out],HL⟩
   by_cases c2:o.len<0
   ·have HC:=Hd c2;go_wp2_with fail;go_meet;exact ⟨by simp [HC.out],HL⟩
   by_cases c3:128<o.off
   ·have HC:=Hd c3;go_wp2_with fail;go_meet;exact ⟨by simp [HC.out],HL⟩
   have hwr:wrap64 (128-o.off)=128-o.off:=IntWalk.wrap64_in _ b10;by_cases c4:128-o.off<o.len
   ·have HC:=Hd c4;go_wp2_with fail;go_meet;exact ⟨by simp [HC.out],HL⟩
   have HC:Hid (decide (o.off<0∨o.len<0∨128<o.off∨128-o.off<o.len)=false):=Hd (decide_eq_false b10);go_wp2_with fail;go_meet;exact ⟨by rw [HC.out],HL⟩
  case rest=>
  obtain ⟨rfl,HL2⟩:=hcut;replace HL:=HL2;clear HL2 t0;by_cases hl:o.off<0∨o.len<0∨128<o.off∨128-o.off<o.len
  ·rw [show decide (o.off<0∨o.len<0∨128<o.off∨128-o.off<o.len)=true from decide_eq_true hl];obtain rfl:PR=_:=HE.out.trans (if_pos hl);clear HE;have HZ9:Hid (Z=s):=Hd (HZ.out.trans b11);clear HZ;clear hl;exact cl3
  ·rw [show decide (o.off<0∨o.len<0∨128<o.off∨128-o.off<o.len)=false from decide_eq_false hl];obtain rfl:PR=_:=HE.out.trans (if_neg hl);clear HE;have hln:o.len≤9223372036854775807:=b10;clear hl;have HW:=Hd (fun W'=>HCA.out sd W' hsd hln);clear HCA hln;generalize (Con.punchV sd o.off o.len).1=TD at *;generalize (Con.punchV sd o.off o.len).2=TE at *;cases b
   ·skip
    have HZ9:Hid (Z=s):=Hd (HZ.out.trans b11);clear HZ;exact cl14
   ·skip
    have HZ9:Hid (Z=chS s f TD):=Hd (HZ.out.trans b11);clear HZ;have t4:=HL.out.t.cell 4 (.int .i64 o.off) b13;have t5:=HL.out.t.cell 5 (.int .i64 o.len) b13;go_wp2_with fail;refine (HW.out _).mono ?_;rintro e w5 ⟨rfl,hb⟩;replace HL:=Hd (HL.out.below hb);clear hb HW t4 t5;exact cl18):p:=h
theorem km20 {p : Prop} (h:p:=by
 by_cases hz:le=0
 ·subst hz;have HE2:=HE.out.trans (if_neg b11);clear HE;have HE:=Hd HE2;clear HE2;exact cm0
 ·exact cl2):p:=h
theorem km42 {p : Prop} (h:p:=by
 exact cl5):p:=h
theorem km48 {p : Prop} (h:p:=by
 have HE:=Hd (punch_eq ok.rt okr hp (o:=o));exact cm96):p:=h
theorem km75 {p : Prop} (h:p:=by
 obtain ⟨Z,hZ⟩:∃Z,Z=(if b=true then (punchR s p o).2 else s):=⟨_,rfl⟩
 rw [←hZ];have HZ:=Hd hZ;clear hZ;generalize (punchR s p o)=PR at *;generalize Des.numE s.d p o.fd=le at *;generalize Des.lookV s.d p o.fd=D at *;generalize Des.numV s.d p o.fd=nv at *;exact cm20):p:=h
theorem km96 {p : Prop} (h:p:=by
 have HCA:Hid (∀(sd:ByteArray) W',sd.size≤128→o.len≤9223372036854775807→Calls Tryz.prog 60 #[.string sd,o.off,o.len] W' (fun e w'=>e=.returned (.tuple #[.string (Con.punchV sd o.off o.len).1,(Con.punchV sd o.off o.len).2])∧Below W' W' w')):=Hd fun sd W' hs hln=>(Con.punchR_any sd o.off o.len W' b17 hln).mono (by rintro e w' ⟨h1,h2⟩;exact ⟨h1,by first|exact h2|(subst h2;exact Below.refl _ _)⟩);exact cm75):p:=h
end Aa13
open Aa13 in
set_option maxHeartbeats 16000000 in
theorem byd_punch (K:Nat) (q:Rq) (B:Nat) (l:Ly) (s:St) (p:Nat) (o:Opr) (b:Bool) (W:World) (h:Rm q B W l s) (ok:Ok K s) (okr:Okr K s) (hp:p<s.scr.length) (hkd:o.kd=7) (hK:K≤9000):
 Calls Tryz.prog 35 #[.pointer (some (l.M 0)),p,opVal o,.bool b] W (RefP b q B W l (punchR s p o).1 (if b=true then (punchR s p o).2 else s)):=by
 exact cm48
namespace Az2u
theorem km0 {p : Prop} (h:p:=by
 have t0:=HL.out.t.cell 0 (.int .i64 8) b26;have HAF:Hid ((ints s.fa)[f]? =some ((s.fa.getD f 0):U)):=Hd (Des.ints_at s.fa f (by have:=HOK.out.fa;omega));have HLA:Hid ((ints s.la)[f]? =some ((s.la.getD f 0):U)):=Hd (Des.ints_at s.la f (by have:=HOK.out.la;omega));have hmin:=HFA.out f;clear HFA;generalize s.fa.getD f 0=fv at *;generalize s.la.getD f 0=lv at *;go_upto_region 55 with (fail)
 go_cut [270] from 259 to 270 (fun s270 wx=>s270=.bool (decide (D.cu<fv))∧Hid (Lc true q B W wx l {l with ex:=W.heap.size::(W.heap.size+1)::Kb::l.ex} s Kb cs [I,I,J] [D.fi,D.fl,D.f,D.cu,D.rf]))
 case first=>as_aux_lemma=>
  have k0:=HL.out.k.cell 0 (.int .i64 (f:Int)) b18;have mA:wc.cell? (l.M 25)=some (.slice (some (l.A 0)) s.fs.length s.fs.length):=HL.out.m.cA;have a0:wc.cell? (l.A f)=some (fv:U):=HL.out.m.g.a.cell f _ HAF.out;have k3:=HL.out.k.cell 3 (.int .i64 D.cu) (rfl);go_wp2_with fail;go_quiet (fail);go_wp2_with fail;try simp only [hmin]
  go_meet;exact ⟨by first|rfl|simp,Hd (HL.out.below (below_drewN Br nq))⟩
 case rest=>
 obtain ⟨rfl,HL2⟩:=hcut;replace HL:=HL2;clear HL2 t0;go_upto_if 270 with (fail)
 go_cut [24] from 259 to 278 (fun s24 wx=>s24=.int .i64 (if D.cu<fv then lv else 0)∧Hid (Lc true q B W wx l {l with ex:=W.heap.size::(W.heap.size+1)::Kb::l.ex} s Kb cs [I,I,J] [D.fi,D.fl,D.f,D.cu,D.rf]))
 case first=>as_aux_lemma=>
  by_cases hcu:D.cu<fv
  ·rw [show decide (D.cu<fv)=true from decide_eq_true hcu];have HCU:=Hd hcu;clear hcu;have k0:=HL.out.k.cell 0 (.int .i64 (f:Int)) b18;have mL:wc.cell? (l.M 26)=some (.slice (some (l.L 0)) s.fs.length s.fs.length):=HL.out.m.cL;have a0:wc.cell? (l.L f)=some (lv:U):=HL.out.m.g.la.cell f _ HLA.out;go_wp2_with fail;go_quiet (fail);go_wp2_with fail;go_meet;exact ⟨by rw [if_pos HCU.out],Hd (HL.out.below (below_drewN Br nq))⟩
  ·rw [show decide (D.cu<fv)=false from decide_eq_false hcu];have HCU:=Hd hcu;clear hcu;go_wp2_with fail;go_meet;exact ⟨by rw [if_neg (by have:=HCU.out;omega)],HL⟩
 case rest=>
 obtain ⟨rfl,HL2⟩:=hcut;replace HL:=HL2;clear HL2;generalize (if D.cu<fv then lv else 0)=ev at *;obtain rfl:PR=_:=HE.out;exact cm39):p:=h
theorem km20 {p : Prop} (h:p:=by
 have HFA:=Hd hfa2;clear hfa2;by_cases hz:le=0
 ·subst hz;have HE2:=HE.out.trans (if_neg b11);clear HE;have HE:=Hd HE2;clear HE2;exact cm0
 ·exact cl2):p:=h
theorem km39 {p : Prop} (h:p:=by
 change bodyPost _ _ _ _ _ (((wc.setCell (W 1 0) ev).setCell (W 1 1) I).setCell (W 1 2) J);generalize hwB:((wc.setCell (W 1 0) ev).setCell (W 1 1) I).setCell (W 1 2) J=w9 at *;have HQ:Hid (At w9 (W.heap.size+1) [ev,I,J]):=by rw [←hwB];exact Hd (HL.out.finA ⟨ev,0,⟨#[]⟩⟩ rfl)
 clear rc0 rc1 rc2 r0 r1 r2 rh;obtain ⟨⟨q0,q1,q2⟩,_,_⟩:=At.three HQ.out;exact bodyPost_ret (v:=.agg #[ev,I,J]) b22 rfl (by (try rw [HZ9.out]);rw [←hwB];exact HL.out.fin ⟨ev,0,⟨#[]⟩⟩ rfl HEX.out b20)):p:=h
theorem km48 {p : Prop} (h:p:=by
 have HE:=Hd (sync_eq ok.rt okr hp (o:=o) x);exact cm96):p:=h
theorem km75 {p : Prop} (h:p:=by
 obtain ⟨Z,hZ⟩:∃Z,Z=s:=⟨_,rfl⟩
 have HZ:=Hd hZ;clear hZ;generalize (syncR s p o x).1=PR at *;generalize Des.numE s.d p o.fd=le at *;generalize Des.lookV s.d p o.fd=D at *;generalize Des.numV s.d p o.fd=nv at *;exact cm20):p:=h
theorem km96 {p : Prop} (h:p:=by
 have hfa2:∀f,min (s.fa.getD f 0) 1000000=s.fa.getD f 0:=fun f=>by have:=okr.fa f;omega
 exact cm75):p:=h
end Az2u
open Az2u in
set_option maxHeartbeats 16000000 in
theorem byd_sync (K:Nat) (q:Rq) (B:Nat) (l:Ly) (s:St) (p:Nat) (o:Opr) (x:Ev) (b:Bool) (W:World) (h:Rm q B W l s) (ok:Ok K s) (okr:Okr K s) (hp:p<s.scr.length) (hkd:o.kd=8) (hK:K≤9000):
 Calls Tryz.prog 35 #[.pointer (some (l.M 0)),p,opVal o,.bool b] W (RefP b q B W l (syncR s p o x).1 s):=by
 exact cm48
end Go.Proofs.YtimhaidiclbnhaaGreat.Ver
