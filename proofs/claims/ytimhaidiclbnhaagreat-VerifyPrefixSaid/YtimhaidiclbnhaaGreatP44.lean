import Derived.Test.YtimhaidiclbnhaaGreatP40
import Derived.Test.YtimhaidiclbnhaaGreatP41
import Derived.Test.YtimhaidiclbnhaaGreatP42
import Derived.Test.YtimhaidiclbnhaaGreatP43
set_option linter.unusedSimpArgs false
set_option linter.unusedVariables false
set_option maxRecDepth 100000
open Go.ChangeShapes Go.WideShapes Go.ChangeAt Go.RowKit
namespace Go.Proofs.YtimhaidiclbnhaaGreat.Ver
open Des (Dv De Dn DIn DBlk DAns Vi At RowOf ints DSz)
open Ara (Ar ARow)
open Con (StrRow)
theorem size66:(Tryz.prog.info? 66).map (·.size)=some 9:=by kernel_rfl
theorem dy_ne {mc:Ly→St→List Value} {B:Nat} {W1 w2:World} {l:Ly} {s:St} {y:Dv} {zs:List Value} {T:TypeId} (h:Mg mc B W1 l s) (ha:DAns (W1.alloc (.cells zs.toArray T)).drew l.x w2 y) (b:Nat) (hb:DBlk y b):b≠W1.heap.size:=by
 rcases ha.blk b hb with h1|h1
 ·have:=h.im.di.di.blk h1;omega
 ·have e:(W1.alloc (.cells zs.toArray T)).drew.heap.size=W1.heap.size+1:=Des.alloc_size _ _;omega
theorem exp_ex {q:Rq} {B:Nat} {W W1:World} {l:Ly} {s:St} {cs rs:List Value} (h:Rm q B W l s) (hx:Bx2 W W1 W.heap.size (W.heap.size+1) cs rs):Rm q B W1 {l with ex:=W.heap.size::(W.heap.size+1)::l.ex} s:=
 h.setEx hx.bel _ fun b hb=>by
  simp only [List.mem_cons] at hb;rcases hb with rfl|rfl|hb
  ·exact ⟨Or.inr Nr,hx.t.hi⟩
  ·exact ⟨Or.inr b10,hx.r.hi⟩
  ·exact ⟨Or.inl hb,Nat.lt_of_lt_of_le (h.g.hx b hb).1 hx.bel.size⟩
theorem exp_fin {b:Bool} {q:Rq} {B:Nat} {W W1 w5:World} {l:Ly} {s s':St} {cs rs:List Value} {r:Res} {e:Ending} (h:Rm q B W l s) (hx:Bx2 W W1 W.heap.size (W.heap.size+1) cs rs) (hr:rs.length=3) (hc:RefP b q B W1 {l with ex:=W.heap.size::(W.heap.size+1)::l.ex} r s' e w5):
 e=.returned (.agg #[r.er,r.n,.string r.dat])∧At w5 (W.heap.size+1) rs∧RefP b q B W l r s' (.returned (.agg #[r.er,r.n,.string r.dat])) (w5.setCells (W.heap.size+1) 0 [r.er,r.n,.string r.dat])∧At (w5.setCells (W.heap.size+1) 0 [r.er,r.n,.string r.dat]) (W.heap.size+1) [r.er,r.n,.string r.dat]:=by
 obtain ⟨⟨x',ar',hs',e1,hm,hv⟩,hbl⟩:=hc;have nm:∀b,W.heap.size≤b→b∉vs l:=fun b hb hm2=>by have:=h.g.hi b hm2;omega
 have hR:At w5 (W.heap.size+1) rs:=Tk.at hx.r hv (nm _ b10);have hk:Vk [W.heap.size+1] w5 (w5.setCells (W.heap.size+1) 0 [r.er,r.n,.string r.dat]):=Vk.cells _ b11 _ 0 w5;have hm2:Rm q B (w5.setCells (W.heap.size+1) 0 [r.er,r.n,.string r.dat]) {l with ex:=W.heap.size::(W.heap.size+1)::l.ex,x:=x',ar:=ar',hs:=hs'} s':=hm.other hk b11 (nm _ b10);have hv2:Vk (vs l) W w5:=(Vk.ofBelow hx.bel).trans hv;refine ⟨e1,hR,⟨⟨x',ar',hs',rfl,?_,?_⟩,fun e=>below_setCells (hx.bel.trans ((hbl e).mono hx.bel.size)) b10 _ 0⟩,hR.store _ hr.symm⟩
 ·exact hm2.setEx Br l.ex fun b hb=>⟨Or.inl (by simp [hb]),Nat.lt_of_lt_of_le (h.g.hx b hb).1 (Nat.le_trans hv2.size hk.size)⟩
 ·exact ⟨hk.os.trans hv2.os,hk.tape.trans hv2.tape,hk.output.trans hv2.output,Nat.le_trans hv2.size hk.size,fun b hb hlt=>(hk.block b b16 (Nat.lt_of_lt_of_le hlt hv2.size)).trans (hv2.block b hb hlt)⟩
namespace Aoud
theorem km10 {p : Prop} (h:p:=by
 have k1:(o.kd==1)=false:=by simpa using h1
 have k2:(o.kd==10)=false:=by simpa using h2
 have k3:(o.kd==11)=false:=by simpa using h3
 have k4:(o.kd==12)=false:=by simpa using h4
 have k5:(o.kd==14)=false:=by simpa using h5
 clear h1 h2 h3 h4 h5;exact cl10):p:=h
end Aoud
open Aoud in
set_option maxHeartbeats 16000000 in
theorem exp_desc (q:Rq) (B:Nat) (l:Ly) (s s':St) (p:Nat) (o:Opr) (b:Bool) (r:Res) (W:World) (h:Rm q B W l s) (h1:o.kd≠1) (h2:o.kd≠10) (h3:o.kd≠11) (h4:o.kd≠12) (h5:o.kd≠14)
 (hc:∀l' W',Rm q B W' l' s→Calls Tryz.prog 35 #[.pointer (some ⟨l'.M,0,none⟩),p,opVal o,.bool b] W' (RefP b q B W' l' r s')):
 Calls Tryz.prog 22 #[.pointer (some (l.M 0)),p,opVal o,.bool b] W (RefP b q B W l r s'):=by
 exact cm10
namespace Ales
theorem km10 {p : Prop} (h:p:=by
 rw [hkd] at t0;exact cl10):p:=h
end Ales
open Ales in
set_option maxHeartbeats 16000000 in
theorem exp_load (q:Rq) (B:Nat) (l:Ly) (s s':St) (p:Nat) (o:Opr) (b:Bool) (r:Res) (W:World) (h:Rm q B W l s) (hkd:o.kd=11)
 (hc:∀l' W',Rm q B W' l' s→Calls Tryz.prog 34 #[.pointer (some ⟨l'.M,0,none⟩),p,opVal o,.bool b] W' (RefP b q B W' l' r s')):
 Calls Tryz.prog 22 #[.pointer (some (l.M 0)),p,opVal o,.bool b] W (RefP b q B W l r s'):=by
 exact cm10
namespace Amt1
theorem km10 {p : Prop} (h:p:=by
 rw [hkd] at t0;exact cl10):p:=h
end Amt1
open Amt1 in
set_option maxHeartbeats 16000000 in
theorem exp_store (q:Rq) (B:Nat) (l:Ly) (s s':St) (p:Nat) (o:Opr) (b:Bool) (r:Res) (W:World) (h:Rm q B W l s) (hkd:o.kd=12)
 (hc:∀l' W',Rm q B W' l' s→Calls Tryz.prog 34 #[.pointer (some ⟨l'.M,0,none⟩),p,opVal o,.bool b] W' (RefP b q B W' l' r s')):
 Calls Tryz.prog 22 #[.pointer (some (l.M 0)),p,opVal o,.bool b] W (RefP b q B W l r s'):=by
 exact cm10
namespace A99x
theorem km6 {p : Prop} (h:p:=by
 clear hcs hov h hkd;go_enter Tryz.func22,Tryz.ntmps22;go_upto_region 1 with (fail)
 generalize World.alloc _ (Obj.cells #[I,I,J] 62)=W1 at *;have t0:=HX.out.t.cell 0 (.int .i64 14) b26;obtain ⟨⟨rc0,rc1,rc2⟩,⟨r0,r1,r2⟩,rh⟩:=At.three HX.out.r;go_wp2_with fail;change bodyPost _ _ _ _ _ (((W1.setCell (W 1 0) I).setCell (W 1 1) I).setCell (W 1 2) J);generalize hwB:((W1.setCell (W 1 0) I).setCell (W 1 1) I).setCell (W 1 2) J=w9 at *;exact cl43):p:=h
end A99x
open A99x in
set_option maxHeartbeats 16000000 in
theorem exp_wait (q:Rq) (B:Nat) (l:Ly) (s:St) (p:Nat) (o:Opr) (b:Bool) (W:World) (h:Rm q B W l s) (hkd:o.kd=14):
 Calls Tryz.prog 22 #[.pointer (some (l.M 0)),p,opVal o,.bool b] W (RefP b q B W l ⟨0,0,⟨#[]⟩⟩ s):=by
 have HM:=Hd h;have HEX:Hid (∀b,b∈l.ex→b<W.heap.size):=Hd fun b hb=>(h.g.hx b hb).1;exact cm6
namespace Akjg
theorem km6 {p : Prop} (h:p:=by
 clear hcs hov h hkd;have HFM:=Hd hfm;have HFL:=Hd hfa;clear hr hfm hfa;go_enter Tryz.func22,Tryz.ntmps22;go_upto_region 1 with (fail)
 generalize World.alloc _ (Obj.cells #[I,I,J] 62)=W1 at *;have t0:=HX.out.t.cell 0 (.int .i64 1) b26;have t2:=HX.out.t.cell 2 (.int .i64 o.fi) b13;have mp:W1.cell? (l.M 14)=some (.slice pa s.fs.length pc):=by rw [←HPL.out];exact (HM.out.below HX.out.bel).cP
 have hnI:(s.fs.length:Int)≤1000:=b10;by_cases hl:o.fi<0∨(s.fs.length:Int)≤o.fi
 ·skip
  obtain rfl:PR=_:=HE.out.trans (if_pos hl);clear HE;have HZ9:Hid (Z=s):=Hd (HZ.out.trans b11);clear HZ;go_upto_region 3 with (fail)
  go_cut [31] from 18 to 31 (fun s31 wx=>s31=.bool true∧Hid (Bx2 W wx W.heap.size (W.heap.size+1) cs [I,I,J]))
  case first=>
   by_cases h1:o.fi<0
   ·go_wp2_with fail;go_quiet (fail);go_wp2_with fail;go_meet;exact ⟨by first|rfl|simp [h1],Hd (HX.out.below (below_drewN Br nq))⟩
   ·have h2:(s.fs.length:Int)≤o.fi:=hl.resolve_left h1;clear hl;go_wp2_with fail;go_quiet (fail);go_wp2_with fail;go_meet;exact ⟨by first|rfl|simp [h1,h2],Hd (HX.out.below (below_drewN Br nq))⟩
  case rest=>
  obtain ⟨rfl,HX2⟩:=hcut;replace HX:=HX2;clear HX2 t0 t2 mp;obtain ⟨⟨rc0,rc1,rc2⟩,⟨r0,r1,r2⟩,rh⟩:=At.three HX.out.r;exact cm107
 ·obtain ⟨f,hf⟩:∃f:Nat,o.fi=(f:Int):=⟨o.fi.toNat,by omega⟩
  have hfn:f<s.fs.length:=b10;have HE2:=HE.out.trans (if_neg hl);clear HE hl;rw [hf,Int.toNat_natCast] at HE2;have HE:=Hd HE2;clear HE2;rw [hf] at HC t2;have HOF:=Hd hf;clear hf;have HAF:Hid ((ints s.fa)[f]? =some ((s.fa.getD f 0):U)):=Hd (Des.ints_at s.fa f (by have:=HFL.out;omega));have hmin:=HFM.out f;generalize s.fa.getD f 0=fv at *;replace HC:=Hd (HC.out fv);generalize Des.openF s.d p (f:Int) o.fl fv=uf at *;generalize Des.openE s.d p (f:Int) o.fl fv=ue at *;generalize Des.openD s.d p (f:Int) o.fl fv=DD at *;have hfI:(f:Int)<(s.fs.length:Int):=b10;have hf0:¬(f:Int)<0:=b10;have hf1:¬(s.fs.length:Int)≤(f:Int):=b10;go_upto_region 3 with (fail)
  go_cut [31] from 18 to 31 (fun s31 wx=>s31=.bool false∧Hid (Bx2 W wx W.heap.size (W.heap.size+1) cs [I,I,J]))
  case first=>
   go_wp2_with fail;go_quiet (fail);go_wp2_with fail;go_meet;exact ⟨by first|rfl|simp [hfn]|(simp;omega),Hd (HX.out.below (below_drewN Br nq))⟩
  case rest=>
  obtain ⟨rfl,HX2⟩:=hcut;replace HX:=HX2;clear HX2 t0 t2 mp;go_upto_region 5 with (fail)
  generalize wc=W2 at *;have HR1:Hid (W.heap.size+1<W2.heap.size):=Hd HX.out.r.hi;have HM1:=Hd (HM.out.below HX.out.bel);go_cut [9,10,11] from 34 to 55 (fun s9 s10 s11 wx=>∃(Kb:Nat) (y:Dv),s9=.pointer (some (Kb 0))∧s10=.int .i64 uf∧s11=.int .i64 ue∧Hid (y.pl=DD)∧Hid (Nb W2 wx Kb [.slice y.oa y.o.length y.oc,.slice y.ta y.t.length y.tc])∧Hid (DAns W2 l.x wx y)∧Hid (∀b,DBlk y b→b≠Kb))
  case first=>
   have HX0:=HX;replace HX:=Hd (HX.out.below Br.drew);have hT:W.heap.size<W2.heap.size:=HX0.out.t.hi;have hM:l.M<W2.heap.size:=HM1.out.g.m.hi;have hA0:l.A<W2.heap.size:=HM1.out.g.a.hi;have e1:¬W2.heap.size=W.heap.size:=b10;have e2:¬W.heap.size=W2.heap.size:=b10;have e3:¬W2.heap.size=l.M:=b10;have e4:¬l.M=W2.heap.size:=b10;have e5:¬W2.heap.size=l.A:=b10;have e6:¬l.A=W2.heap.size:=b10;have yt2:=HX0.out.t.cell 2 (.int .i64 (f:Int)) b34;have yt3:=HX0.out.t.cell 3 (.int .i64 o.fl) b13;have ymO:W2.cell? (l.M 21)=some (.slice l.x.oa l.x.o.length l.x.oc):=(HM.out.below HX0.out.bel).cO.1;have ymP:W2.cell? (l.M 22)=some (.slice l.x.ta l.x.t.length l.x.tc):=(HM.out.below HX0.out.bel).cO.2;have ymA:W2.cell? (l.M 25)=some (.slice (some (l.A 0)) s.fs.length s.fs.length):=(HM.out.below HX0.out.bel).cA;have ya0:W2.cell? (l.A f)=some (fv:U):=(HM.out.below HX0.out.bel).g.a.cell f _ HAF.out;have t2:=HX.out.t.cell 2 (.int .i64 (f:Int)) b34;have t3:=HX.out.t.cell 3 (.int .i64 o.fl) b13;have mO:W2.drew.cell? (l.M 21)=some (.slice l.x.oa l.x.o.length l.x.oc):=(HM.out.below HX.out.bel).cO.1;have mP:W2.drew.cell? (l.M 22)=some (.slice l.x.ta l.x.t.length l.x.tc):=(HM.out.below HX.out.bel).cO.2;have mA:W2.drew.cell? (l.M 25)=some (.slice (some (l.A 0)) s.fs.length s.fs.length):=(HM.out.below HX.out.bel).cA;have a0:W2.drew.cell? (l.A f)=some (fv:U):=(HM.out.below HX.out.bel).g.a.cell f _ HAF.out;go_region_held3 (fun w'=>w'.cell? (W 0 2)=some (f:U)∧w'.cell? (W 0 3)=some (o.fl:U)∧w'.cell? (l.M 21)=some (.slice l.x.oa l.x.o.length l.x.oc)∧w'.cell? (l.M 22)=some (.slice l.x.ta l.x.t.length l.x.tc)∧w'.cell? (l.M 25)=some (.slice (some (l.A 0)) s.fs.length s.fs.length)∧w'.cell? (l.A f)=some (fv:U)) (go_keep) (first|((try simp only [hmin]);go_at_call 32;refine (HC.out _ b32).mono ?_;rintro e w2 ⟨y,rfl,hpl,ha,hb⟩;have HPY:=Hd hpl;have HDA:=Hd ha;clear hpl ha;(first|(have HA:=Hd hb;replace HX:=Hd (HX.out.below hb))|(have HB:=Hd hb;obtain ⟨_,_,f0,f1,fh⟩:=Des.At.two (((At.new W2 [σ,σ] 83).drew).below hb b99);replace HX:=Hd ((HX.out.below (Br.alloc Nr _)).below hb)));clear hb t2 t3 mO mP mA a0;have t2:=HX.out.t.cell 2 (.int .i64 (f:Int)) b34;have t3:=HX.out.t.cell 3 (.int .i64 o.fl) b13;have mO:w2.cell? (l.M 21)=some (.slice l.x.oa l.x.o.length l.x.oc):=(HM.out.below HX.out.bel).cO.1;have mP:w2.cell? (l.M 22)=some (.slice l.x.ta l.x.t.length l.x.tc):=(HM.out.below HX.out.bel).cO.2;have mA:w2.cell? (l.M 25)=some (.slice (some (l.A 0)) s.fs.length s.fs.length):=(HM.out.below HX.out.bel).cA;have a0:w2.cell? (l.A f)=some (fv:U):=(HM.out.below HX.out.bel).g.a.cell f _ HAF.out))
   all_goals
    go_wp2_with fail;go_meet;first|exact ⟨_,y,rfl,rfl,rfl,HPY,Hd (Nb.after ((Below.refl W2 W2).drew.trans HA.out) [.slice y.oa y.o.length y.oc,.slice y.ta y.t.length y.tc] 83),Hd (dy_after ((Below.refl W2 W2).drew.trans HA.out) HDA.out _),Hd (fun b hb=>by have:=HDA.out.di.blk hb;omega)⟩|exact ⟨_,y,rfl,rfl,rfl,HPY,Hd (Nb.before (T:=83) (zs:=[σ,σ]) ((Below.refl (W2.alloc _).heap.size (W2.alloc _)).drew.trans HB.out) [.slice y.oa y.o.length y.oc,.slice y.ta y.t.length y.tc] rfl),Hd (dy_beforeR HM1.out.g HDA.out [.slice y.oa y.o.length y.oc,.slice y.ta y.t.length y.tc]),Hd (fun b hb=>dy_ne HM1.out.g HDA.out b hb)⟩
  case rest=>
  obtain ⟨Kb,y,rfl,rfl,rfl,HPY,HN,HDA,HNE⟩:=hcut;have HL:=Hd (Lc.start HM.out HX.out HN.out);have HVY:Hid (Vi _ (vx {l with ex:=W.heap.size::(W.heap.size+1)::Kb::l.ex}) y):=Hd ⟨HDA.out.di,fun b hb hv=>by
   have h1:DBlk l.x b∨W2.heap.size≤b:=HDA.out.blk b hb;have h2:b∈vs l∨b∈W.heap.size::(W.heap.size+1)::Kb::l.ex:=List.mem_append.1 hv;have h3:=HX.out.bel.size;have h4:=HR1.out;rcases h1 with h1|h1
   ·have h5:=HM.out.g.im.di.out b h1;have h6:=HM.out.g.im.di.di.blk h1;rcases h2 with h2|h2
    ·exact h5 (List.mem_append.2 (Or.inl h2))
    ·simp only [List.mem_cons] at h2;rcases h2 with h2|h2|h2|h2
     ·omega
     ·omega
     ·exact HNE.out b hb h2
     ·exact h5 (List.mem_append.2 (Or.inr h2))
   ·rcases h2 with h2|h2
    ·have:=HM.out.g.hi b h2;omega
    ·simp only [List.mem_cons] at h2;rcases h2 with h2|h2|h2|h2
     ·omega
     ·omega
     ·exact HNE.out b hb h2
     ·have:=HEX.out b h2;omega⟩
  have HY:=HN.out.at';clear HX HN HC HDA HNE HM1;by_cases hu:ue=0
  ·subst hu;obtain rfl:PR=_:=HE.out.trans (if_pos rfl);clear HE;cases b
   ·exact cm59
   ·skip
    have HZ9:Hid (Z={s with d:=DD}):=Hd (HZ.out.trans b11);clear HZ;obtain ⟨y0,y1,_,_,yh⟩:=Des.At.two HY;have z0:wc.frozen? (l.M 21)=false:=HL.out.m.free 21 b10;have z1:wc.frozen? (l.M 22)=false:=HL.out.m.free 22 b10;have z2:l.M<wc.heap.size:=HL.out.m.g.m.hi;have zO:wc.cell? (l.M 21)=some (.slice l.x.oa l.x.o.length l.x.oc):=HL.out.m.cO.1;have zP:wc.cell? (l.M 22)=some (.slice l.x.ta l.x.t.length l.x.tc):=HL.out.m.cO.2;go_upto_region 10 with (fail)
    generalize hw3:(wc.setCell (l.M 21) (.slice y.oa y.o.length y.oc)).setCell (l.M 22) (.slice y.ta y.t.length y.tc)=w3 at *;have HL3:Hid (Lc false q B W w3 l {l with ex:=W.heap.size::(W.heap.size+1)::Kb::l.ex,x:=y} {s with d:=y.pl} Kb cs [I,I,J] [.slice y.oa y.o.length y.oc,.slice y.ta y.t.length y.tc]):=by rw [←hw3];exact Hd (HL.out.stepV y (HL.out.m.putO y HVY.out) ((Vk.set _ _ _ _ (mvs _).1).trans (Vk.set _ _ _ _ (mvs _).1)))
    rw [HPY.out] at HL3;clear hw3 z0 z1 z2 zO zP y0 y1 HL HY HVY HPY;exact cm82
  ·have hu':(ue==0)=false:=by simpa using hu
   obtain rfl:PR=_:=HE.out.trans (if_neg hu);exact cm39):p:=h
theorem km39 {p : Prop} (h:p:=by
 exact cm65):p:=h
theorem km59 {p : Prop} (h:p:=by
 exact cm84):p:=h
theorem km65 {p : Prop} (h:p:=by
 exact bodyPost_ret (v:=.agg #[ue,I,J]) b49 rfl b132):p:=h
theorem km82 {p : Prop} (h:p:=by
 exact bodyPost_ret (v:=.agg #[I,uf,J]) b49 rfl b131):p:=h
theorem km84 {p : Prop} (h:p:=by
 exact bodyPost_ret (v:=.agg #[I,uf,J]) b49 rfl b130):p:=h
theorem km93 {p : Prop} (h:p:=by
 obtain ⟨pa,pc,hpl⟩:=hpl;have HPL:Hid (l.pl=.slice pa s.fs.length pc):=Hd hpl;clear hpl;obtain ⟨Z,hZ⟩:∃Z,Z=(if b=true then (openedR s p o).2 else s):=⟨_,rfl⟩
 rw [←hZ];have HZ:=Hd hZ;clear hZ;generalize openedR s p o=PR at *;exact cm6):p:=h
theorem km107 {p : Prop} (h:p:=by
 have HQ:Hid (At w9 (W.heap.size+1) [(2:Int),I,J]):=by rw [←hwB];exact Hd (HX.out.finA ⟨2,0,⟨#[]⟩⟩ rfl)
 clear rc0 rc1 rc2 r0 r1 r2 rh;obtain ⟨⟨q0,q1,q2⟩,_,_⟩:=At.three HQ.out;exact bodyPost_ret (v:=.agg #[(2:Int),I,J]) b49 rfl (by (try rw [HZ9.out]);rw [←hwB];exact HX.out.fin HM.out ⟨2,0,⟨#[]⟩⟩ rfl)):p:=h
end Akjg
open Akjg in
set_option maxHeartbeats 16000000 in
theorem exp_open (q:Rq) (B:Nat) (l:Ly) (s:St) (p:Nat) (o:Opr) (b:Bool) (W:World) (h:Rm q B W l s) (hr:Des.Rt s.d) (hn:s.fs.length≤1000) (hfa:s.fa.length=s.fs.length) (hfm:∀f,min (s.fa.getD f 0) 1000000=s.fa.getD f 0) (hpl:∃pa pc,l.pl=.slice pa s.fs.length pc) (hkd:o.kd=1):
 Calls Tryz.prog 22 #[.pointer (some (l.M 0)),p,opVal o,.bool b] W (RefP b q B W l (openedR s p o).1 (if b=true then (openedR s p o).2 else s)):=by
 have HM:=Hd h;have HEX:Hid (∀b,b∈l.ex→b<W.heap.size):=Hd fun b hb=>(h.g.hx b hb).1;have HRT:=Hd hr;have HC:Hid (∀c W',Below W W W'→Calls Tryz.prog 32 #[.agg #[.slice l.x.oa l.x.o.length l.x.oc,.slice l.x.ta l.x.t.length l.x.tc],p,o.fi,o.fl,.int .i64 c] W' (fun e w'=>∃y:Dv,e=.returned (.tuple #[.agg #[.slice y.oa y.o.length y.oc,.slice y.ta y.t.length y.tc],(Des.openF s.d p o.fi o.fl c),(Des.openE s.d p o.fi o.fl c)])∧y.pl=Des.openD s.d p o.fi o.fl c∧DAns W' l.x w' y∧Below W' W' w')):=Hd fun c W' hb=>by
  have h1:=Des.openR_v l.x p o.fi o.fl c W' (h.below hb).g.im.di.di (h.dz hr);rw [h.g.im.dp] at h1;exact h1
 exact cm93
namespace A9qn
theorem km6 {p : Prop} (h:p:=by
 clear hcs hov h hkd;generalize (s.ar.getD p []).length=la at *;go_enter Tryz.func22,Tryz.ntmps22;go_upto_region 1 with (fail)
 generalize World.alloc _ (Obj.cells #[I,I,J] 62)=W1 at *;have t0:=HX.out.t.cell 0 (.int .i64 10) b26;go_upto_region 12 with (fail)
 clear t0;have HMx:=Hd (exp_ex HM.out HX.out);have HR1:Hid (W.heap.size+1<W1.heap.size):=Hd HX.out.r.hi;go_cut [12,13] from 70 to 83 (fun s12 s13 wx=>∃b2 c2,s12=.slice b2 TD.length c2∧s13=.int .i64 TE∧Hid (ARow 0 b2 c2 TD wx)∧Hid (∀g,b2=some g→g.block∉vx {l with ex:=W.heap.size::(W.heap.size+1)::l.ex})∧Hid (Below W1 W1 wx))
 case first=>
  replace HX:=Hd (HX.out.below Br.drew);replace HMx:=Hd (HMx.out.below Br.drew);have t5:=HX.out.t.cell 5 (.int .i64 o.len) b13;have t6:=HX.out.t.cell 6 (.int .i64 o.pg) b13;have mR:W1.drew.cell? (l.M 23)=some (.slice (some (l.R 0)) s.scr.length s.scr.length):=HMx.out.cR;have r0:=(HR.out _ _ HMx.out).1;go_region_held3 (fun w'=>w'.cell? (W 0 5)=some (o.len:U)∧w'.cell? (W 0 6)=some (o.pg:U)∧w'.cell? (l.M 23)=some (.slice (some (l.R 0)) s.scr.length s.scr.length)∧w'.cell? (l.R p)=some (.slice a0 la c0)) (go_keep) (first|(go_at_call 33;refine (HC.out _ _ HMx.out).mono ?_;rintro e w2 ⟨b2,c2,rfl,har,hnv,hb⟩;have HAR:=Hd har;have HNV:=Hd hnv;have HB9:=Hd hb;replace HX:=Hd (HX.out.below hb);replace HMx:=Hd (HMx.out.below hb);clear har hnv hb t5 t6 mR r0;have t5:=HX.out.t.cell 5 (.int .i64 o.len) b13;have t6:=HX.out.t.cell 6 (.int .i64 o.pg) b13;have mR:w2.cell? (l.M 23)=some (.slice (some (l.R 0)) s.scr.length s.scr.length):=HMx.out.cR;have r0:=(HR.out _ _ HMx.out).1))
  all_goals
   go_wp2_with fail;go_meet;exact ⟨b2,c2,rfl,rfl,HAR,HNV,Hd ((Below.refl W1 W1).drew.trans HB9.out)⟩
 case rest=>
 obtain ⟨b2,c2,rfl,rfl,HAR,HNV,HB9⟩:=hcut;replace HX:=Hd (HX.out.below HB9.out);clear HC HMx HR1;by_cases hu:TE=0
 ·subst hu;obtain rfl:PR=_:=HE.out.trans (if_neg b11);clear HE;cases b
  ·skip
   have HZ9:Hid (Z=s):=Hd (HZ.out.trans b11);clear HZ;obtain ⟨⟨rc0,rc1,rc2⟩,⟨r0,r1,r2⟩,rh⟩:=At.three HX.out.r;go_wp2_with fail;change bodyPost _ _ _ _ _ (((wc.setCell (W 1 0) I).setCell (W 1 1) I).setCell (W 1 2) J);generalize hwB:((wc.setCell (W 1 0) I).setCell (W 1 1) I).setCell (W 1 2) J=w9 at *;exact cl43
  ·skip
   have HZ9:Hid (Z={s with ar:=s.ar.set p TD}):=Hd (HZ.out.trans b11);clear HZ;have HMx:=Hd (exp_ex HM.out HX.out);obtain ⟨r0,r1,r2⟩:=HR.out _ _ HMx.out;have mR:wc.cell? (l.M 23)=some (.slice (some (l.R 0)) s.scr.length s.scr.length):=HMx.out.cR;go_upto_region 17 with (fail)
   generalize hw3:wc.setCell (l.R p) (.slice b2 TD.length c2)=w3 at *;have hfin:RefP true q B wc {l with ex:=W.heap.size::(W.heap.size+1)::l.ex} ⟨0,0,⟨#[]⟩⟩ {s with ar:=s.ar.set p TD} (.returned (.agg #[I,I,J])) w3:=⟨⟨l.x,l.ar.set p ⟨b2,c2⟩,l.hs,rfl,by rw [←hw3];exact ⟨HMx.out.g.putR p hp b2 c2 TD HAR.out HNV.out,HMx.out.cf,HMx.out.ch,HMx.out.cs⟩,by rw [←hw3];exact Vk.set _ _ _ _ (mvs _).2.2.2.2.1⟩,fun e=>by cases e⟩
   obtain ⟨_,hR,hF,hA⟩:=exp_fin HM.out HX.out rfl hfin;have HF:=Hd hF;have HA:=Hd hA;obtain ⟨⟨rc0,rc1,rc2⟩,⟨r0',r1',r2'⟩,rh⟩:=At.three hR;clear hR hF hA hfin hw3 r0 r1 r2 mR HMx;go_wp2_with fail;change bodyPost _ _ _ _ _ (((w3.setCell (W 1 0) I).setCell (W 1 1) I).setCell (W 1 2) J);generalize hwB:((w3.setCell (W 1 0) I).setCell (W 1 1) I).setCell (W 1 2) J=w9 at *;replace HF:Hid (RefP true q B W l ⟨0,0,⟨#[]⟩⟩ {s with ar:=s.ar.set p TD} (.returned (.agg #[I,I,J])) w9):=by rw [←hwB];exact HF
   replace HA:Hid (At w9 (W.heap.size+1) [I,I,J]):=by rw [←hwB];exact HA
   clear rc0 rc1 rc2 r0' r1' r2' rh;obtain ⟨⟨q0,q1,q2⟩,_,_⟩:=At.three HA.out;exact bodyPost_ret (v:=.agg #[I,I,J]) b49 rfl (by rw [HZ9.out];exact HF.out)
 ·have hu':(TE==0)=false:=by simpa using hu
  obtain rfl:PR=_:=HE.out.trans (if_pos hu);clear HE;have HZ9:Hid (Z=s):=Hd (HZ.out.trans b11);clear HZ;obtain ⟨⟨rc0,rc1,rc2⟩,⟨r0,r1,r2⟩,rh⟩:=At.three HX.out.r;go_wp2_with fail;change bodyPost _ _ _ _ _ (((wc.setCell (W 1 0) TE).setCell (W 1 1) I).setCell (W 1 2) J);generalize hwB:((wc.setCell (W 1 0) TE).setCell (W 1 1) I).setCell (W 1 2) J=w9 at *;have HQ:Hid (At w9 (W.heap.size+1) [TE,I,J]):=by rw [←hwB];exact Hd (HX.out.finA ⟨TE,0,⟨#[]⟩⟩ rfl)
  clear rc0 rc1 rc2 r0 r1 r2 rh;obtain ⟨⟨q0,q1,q2⟩,_,_⟩:=At.three HQ.out;exact bodyPost_ret (v:=.agg #[TE,I,J]) b49 rfl (by (try rw [HZ9.out]);rw [←hwB];exact HX.out.fin HM.out ⟨TE,0,⟨#[]⟩⟩ rfl)):p:=h
end A9qn
open A9qn in
set_option maxHeartbeats 16000000 in
theorem exp_unmap (q:Rq) (B:Nat) (l:Ly) (s:St) (p:Nat) (o:Opr) (b:Bool) (W:World) (h:Rm q B W l s) (hp:p<s.ar.length) (hps:p<s.scr.length) (hn2:s.scr.length≤1000) (hal:(s.ar.getD p []).length≤100) (hkd:o.kd=10):
 Calls Tryz.prog 22 #[.pointer (some (l.M 0)),p,opVal o,.bool b] W (RefP b q B W l (unmapR s p o).1 (if b=true then (unmapR s p o).2 else s)):=by
 have HM:=Hd h;have HEX:Hid (∀b,b∈l.ex→b<W.heap.size):=Hd fun b hb=>(h.g.hx b hb).1;obtain ⟨a0,c0,hsl⟩:∃a c,l.ar.getD p Sl.nil=⟨a,c⟩:=⟨_,_,rfl⟩
 have HSL:=Hd hsl;obtain ⟨TD,TE,hte⟩:∃TD TE,Ara.unmapV (s.ar.getD p []) o.pg o.len=(TD,TE):=⟨_,_,rfl⟩
 have HC:Hid (∀(E:List Nat) W',Rm q B W' {l with ex:=E} s→Calls Tryz.prog 33 #[.slice a0 (s.ar.getD p []).length c0,o.pg,o.len] W' (fun e w'=>∃b c,e=.returned (.tuple #[.slice b TD.length c,.int .i64 TE])∧ARow 0 b c TD w'∧(∀g,b=some g→g.block∉vx {l with ex:=E})∧Below W' W' w')):=Hd fun E W' hm=>by
  have h1:=hm.g.im.ra p hp;rw [show ({l with ex:=E}:Ly).ar.getD p Sl.nil=⟨a0,c0⟩ from hsl] at h1;have h9:=Ara.unmapR_any 0 a0 (s.ar.getD p []) c0 o.pg o.len W' h1.1 hal;rw [hte] at h9;refine h9.mono ?_;rintro e w' ⟨b,c,h2,h3,h4⟩;rcases h3 with h3|⟨rfl,rfl,h3⟩
  ·exact cl62
  ·have h3x:TD=s.ar.getD p []:=h3;exact ⟨_,_,h2,by rw [h3x];exact h1.1.below h4,fun g hg=>h1.2 g hg,h4⟩
 have HR:Hid (∀(E:List Nat) W',Rm q B W' {l with ex:=E} s→W'.cell? (l.R p)=some (.slice a0 (s.ar.getD p []).length c0)∧W'.frozen? (l.R p)=false∧l.R<W'.heap.size):=Hd fun E W' hm=>by
  have h1:=hm.g.r.cell p _ (slC_at l.ar s.ar p hp);rw [hsl] at h1;exact ⟨h1,hm.g.r.free p (by rw [slC_len];exact hp),hm.g.r.hi⟩
 have HE:Hid (unmapR s p o=if TE≠0 then (badR TE,s) else (⟨0,0,⟨#[]⟩⟩,{s with ar:=s.ar.set p TD})):=Hd (by unfold unmapR;rw [hte]);obtain ⟨Z,hZ⟩:∃Z,Z=(if b=true then (unmapR s p o).2 else s):=⟨_,rfl⟩
 rw [←hZ];have HZ:=Hd hZ;clear hZ hte hsl;generalize unmapR s p o=PR at *;have hpI:(p:Int)<(s.scr.length:Int):=b10;have hnS:(s.scr.length:Int)≤1000:=b10;exact cm6
theorem expectR_any (K:Nat) (q:Rq) (B:Nat) (l:Ly) (s:St) (p:Nat) (o:Opr) (x:Ev) (b:Bool) (W:World) (h:Rm q B W l s) (ok:Ok K s) (okr:Okr K s) (hK:K≤9000) (hp:p<s.scr.length) (hpl:∃pa pc,l.pl=.slice pa s.fs.length pc) (n:Nat) (hn:n<14) (hk:o.kd=(n:Int)+1) (hoff:o.off≤1000000) (hdat:o.dat.size≤1000):
 Calls Tryz.prog 22 #[.pointer (some (l.M 0)),p,opVal o,.bool b] W (RefP b q B W l (planR s p o x).1 (if b=true∧o.kd≠8 then (planR s p o x).2 else s)):=by
 have hpa:p<s.ar.length:=by rw [ok.ar];exact hp
 have hkn:o.kd.toNat=n+1:=b10;have hnx:∀{k:Nat},n=k→k≠7→o.kd≠8:=fun e h7=>by omega
 have hif:∀X:St,n≠7→(if b=true∧o.kd≠8 then X else s)=(if b=true then X else s):=fun X h7=>by
  have h8:o.kd≠8:=b10;by_cases hb:b=true
  ·rw [if_pos ⟨hb,h8⟩,if_pos hb]
  ·rw [if_neg (fun e=>hb e.1),if_neg hb]
 unfold planR;rw [hkn];rcases n with _ | _ | _ | _ | _ | _ | _ | _ | _ | _ | _ | _ | _ | _ |n
 ·rw [hif _ b10];exact exp_open q B l s p o b W h ok.rt ok.nf ok.fa (fun f=>by have:=okr.fa f;omega) hpl hk
 ·rw [hif _ b10];exact exp_desc q B l s _ p o b _ W h b10 b10 b10 b10 b10 fun l' W' h'=>byd_closed K q B l' s p o b W' h' ok okr hp hk
 ·rw [hif _ b10];exact exp_desc q B l s _ p o b _ W h b10 b10 b10 b10 b10 fun l' W' h'=>byd_read K q B l' s p o b W' h' ok okr hp hk
 ·rw [hif _ b10];exact exp_desc q B l s _ p o b _ W h b10 b10 b10 b10 b10 fun l' W' h'=>byd_write K q B l' s p o b W' h' ok okr hp hk hK hdat
 ·rw [hif _ b10];exact exp_desc q B l s _ p o b _ W h b10 b10 b10 b10 b10 fun l' W' h'=>byd_seek K q B l' s p o b W' h' ok okr hp hk
 ·rw [hif _ b10];exact exp_desc q B l s _ p o b _ W h b10 b10 b10 b10 b10 fun l' W' h'=>byd_truncate K q B l' s p o b W' h' ok okr hp hk hK
 ·rw [hif _ b10];exact exp_desc q B l s _ p o b _ W h b10 b10 b10 b10 b10 fun l' W' h'=>byd_punch K q B l' s p o b W' h' ok okr hp hk hK
 ·have h8:o.kd=8:=b10;rw [if_neg (fun e=>e.2 h8)];exact exp_desc q B l s _ p o b _ W h b10 b10 b10 b10 b10 fun l' W' h'=>byd_sync K q B l' s p o x b W' h' ok okr hp h8 hK
 ·rw [hif _ b10];exact exp_desc q B l s _ p o b _ W h b10 b10 b10 b10 b10 fun l' W' h'=>byd_mapped K q B l' s p o b W' h' ok okr hp hk
 ·rw [hif _ b10];exact exp_unmap q B l s p o b W h hpa hp ok.ns (ok.al p) hk
 ·rw [hif _ b10];exact exp_load q B l s _ p o b _ W h hk fun l' W' h'=>bya_load K q B l' s p o b W' h' ok okr hK hp hk hoff hdat
 ·rw [hif _ b10];exact exp_store q B l s _ p o b _ W h hk fun l' W' h'=>bya_store K q B l' s p o b W' h' ok okr hK hp hk hoff hdat
 ·rw [hif _ b10];exact exp_desc q B l s _ p o b _ W h b10 b10 b10 b10 b10 fun l' W' h'=>byd_dup K q B l' s p o b W' h' ok okr hp hk
 ·rw [hif _ b10];have e:(if b=true then s else s)=s:=by split<;>rfl
  show Calls _ _ _ _ (RefP b q B W l ⟨0,0,⟨#[]⟩⟩ (if b=true then s else s));rw [e];exact exp_wait q B l s p o b W h hk
 ·omega
end Go.Proofs.YtimhaidiclbnhaaGreat.Ver
