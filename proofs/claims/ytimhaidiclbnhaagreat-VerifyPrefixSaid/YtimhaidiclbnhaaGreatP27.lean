import Derived.Test.YtimhaidiclbnhaaGreatP25
import Derived.Test.YtimhaidiclbnhaaGreatP26
set_option linter.unusedSimpArgs false
set_option linter.unusedVariables false
set_option maxRecDepth 100000
open Go.ChangeShapes Go.WideShapes Go.ChangeAt Go.RowKit
namespace Go.Proofs.YtimhaidiclbnhaaGreat.Ver
open Des (Dv De Dn DIn DBlk DAns Vi At RowOf ints DSz)
open Ara (Ar ARow)
open Con (StrRow)
def ordB (s:St) (i:Int) (x:Ev):Bool:=
 let g:=decide (i=0∨s.tm≤x.tm)
 if x.pr=-1 then g else decide (g=true∧0≤x.bg∧x.bg≤i∧s.bg.getD x.pr.toNat 0≤x.bg∧x.ix=s.fin.getD x.pr.toNat 0)
def ordS (s:St) (x:Ev):St:=
 if x.pr=-1 then {s with tm:=x.tm} else {s with tm:=x.tm,bg:=s.bg.set x.pr.toNat x.bg,fin:=s.fin.set x.pr.toNat (s.fin.getD x.pr.toNat 0+1)}
set_option maxHeartbeats 40000000 in
theorem ordered_any (B:Nat) (l:Ly) (s:St) (i:Int) (x:Ev) (W:World) (h:Mm B W l s) (hx:x.pr=-1∨∃p:Nat,x.pr=(p:Int)∧p<s.scr.length) (hbl:s.bg.length=s.scr.length) (hnl:s.fin.length=s.scr.length) (hn:s.scr.length≤1000) (hfb:∀p,0≤s.fin.getD p 0∧s.fin.getD p 0≤1000000):
 Calls Tryz.prog 38 #[.pointer (some (l.M 0)),i,evVal x] W fun e w'=>e=.returned (.bool (ordB s i x))∧Mm B w' l (ordS s x)∧Vk (vs l) W w':=by
 have HM:=Hd h;have HE:=Hd (Des.At.new W x.cells 64);have HBW:Hid (Below W W (W.alloc (.cells x.cells.toArray 64))):=Hd (Br.alloc Nr _);have HG:Hid (ordB s i x=if x.pr=-1 then decide (i=0∨s.tm≤x.tm) else decide (decide (i=0∨s.tm≤x.tm)=true∧0≤x.bg∧x.bg≤i∧s.bg.getD x.pr.toNat 0≤x.bg∧x.ix=s.fin.getD x.pr.toNat 0)):=Hd rfl;have HS:Hid (ordS s x=if x.pr=-1 then {s with tm:=x.tm} else {s with tm:=x.tm,bg:=s.bg.set x.pr.toNat x.bg,fin:=s.fin.set x.pr.toNat (s.fin.getD x.pr.toNat 0+1)}):=Hd rfl;generalize ordB s i x=rB at *;generalize ordS s x=rS at *;unfold evVal;have hMW:l.M<W.heap.size:=h.m.hi;clear h;have HX:=Hd hx;have HFB:=Hd hfb;clear hx hfb;go_enter Tryz.func38,Tryz.ntmps38;go_upto_region 1 with (fail)
 unfold Ev.cells at HE HBW;generalize World.alloc W (Obj.cells #[x.tm,x.pr,x.ix,x.fi,x.at',x.bg,x.er,x.n,.string x.dat] 64)=W1 at *;go_cut [7,6] (fun v v6 wx=>v=.bool (decide (i=0∨s.tm≤x.tm))∧v6=.bool false∧Hid (Below W1 W1 wx))
 case first=>
  have e0:=HE.out.cell 0 (.int .i64 x.tm) rfl;have mT:=(HM.out.below HBW.out).cT;by_cases h0:i=0
  ·subst h0;exact cl96
  ·go_wp2_with fail;go_quiet (fail);go_wp2_with fail;go_meet;exact ⟨by simp [h0],rfl,Hd (below_drewN Br nq)⟩
 case rest=>
 obtain ⟨rfl,rfl,HBB⟩:=hcut;obtain ⟨W2,hW2⟩:∃W2,W2=wc:=⟨_,rfl⟩
 subst hW2;have HB2:Hid (Below W W W2):=Hd (HBW.out.trans (HBB.out.mono HBW.out.size));have HE2:=Hd (HE.out.below HBB.out HE.out.hi);clear HBW HBB HE;generalize decide (i=0∨s.tm≤x.tm)=g at *;have HM3:=Hd ((HM.out.below HB2.out).putT x.tm);have HE3:=Hd (HE2.out.setOther (x:=⟨l.M,31,none⟩) (by show W.heap.size≠l.M;omega) (.int .i64 x.tm));have HV3:=Hd ((Vk.ofBelow HB2.out).trans (Vk.set (V:=vs l) W2 l.M 31 (.int .i64 x.tm) (mvs l).1));have e0:=HE2.out.cell 0 (.int .i64 x.tm) rfl;have e1:=HE3.out.cell 1 (.int .i64 x.pr) rfl;have m0:=(HM.out.below HB2.out).cT;have m1:=(HM.out.below HB2.out).m.free 31 b27;have m2:=(HM.out.below HB2.out).m.hi;go_upto_if 26 with (fail)
 clear e0 e1 m0 m1 m2;generalize W2.setCell (l.M 31) x.tm=W3 at *;by_cases hp:x.pr=-1
 ·have hd:(x.pr==-1)=true:=by simp [hp]
  rw [hd];go_wp2_with fail;exact bodyPost_ret (v:=.bool g) (by simp [results,Tryz.results38,go_sem]) rfl ⟨by rw [HG.out,if_pos hp],by rw [HS.out,if_pos hp];exact HM3.out,HV3.out⟩
 ·have hd:(x.pr==-1)=false:=by simp [hp]
  rw [hd];obtain ⟨p,hpp,hps⟩:=HX.out.resolve_left hp;rw [if_neg hp,hpp,Int.toNat_natCast] at HG HS;clear hd hp HX;have HP:=Hd hpp;clear hpp;have HFP:=Hd (HFB.out p);have HBP:Hid ((ints s.bg)[p]? =some ((s.bg.getD p 0):U)):=Hd (Des.ints_at s.bg p b10);have HNP:Hid ((ints s.fin)[p]? =some ((s.fin.getD p 0):U)):=Hd (Des.ints_at s.fin p b10);clear HFB;generalize s.bg.getD p 0=bv at *;generalize s.fin.getD p 0=fv at *;have hpI:(p:Int)<(s.scr.length:Int):=b10;have hnI:(s.scr.length:Int)≤1000:=b10;go_upto_region 5 with (fail)
  go_cut [7,6] (fun v v6 wx=>v=.bool (decide (g=true∧0≤x.bg∧x.bg≤i∧bv≤x.bg∧x.ix=fv))∧v6=.bool false∧Hid (Below W3 W3 wx))
  case first=>
   have e1:=HE3.out.cell 1 (.int .i64 (p:Int)) (by rw [←HP.out];rfl);have e2:=HE3.out.cell 2 (.int .i64 x.ix) rfl;have e5:=HE3.out.cell 5 (.int .i64 x.bg) rfl;have mB:=HM3.out.cB;have mN:=HM3.out.cN;have a1:=HM3.out.b.cell p _ HBP.out;have a2:=HM3.out.n.cell p _ HNP.out;rcases Bool.eq_false_or_eq_true g with hg|hg
   rotate_left
   ·obtain rfl:g=false:=hg;exact cl96
   ·obtain rfl:g=true:=hg;by_cases t1:0≤x.bg
    ·by_cases t2:x.bg≤i
     ·by_cases t3:bv≤x.bg
      ·go_wp2_with fail;go_quiet (fail);go_wp2_with fail;go_meet;exact ⟨by by_cases q:x.ix=fv<;>simp [t1,t2,t3,q],rfl,Hd (below_drewN Br nq)⟩
      ·have d:decide (bv≤x.bg)=false:=decide_eq_false t3;replace t3:=Hd t3;go_wp2_with fail;go_quiet (fail);go_wp2_with fail;go_meet;exact ⟨congrArg Value.bool (decide_eq_false (fun hh=>by have hb1:=t3.out;have hb2:=hh.2.2.2.1;omega)).symm,rfl,Hd (below_drewN Br nq)⟩
     ·have d:decide (x.bg≤i)=false:=decide_eq_false t2;replace t2:=Hd t2;go_wp2_with fail;go_quiet (fail);go_wp2_with fail;go_meet;exact ⟨congrArg Value.bool (decide_eq_false (fun hh=>by have hb1:=t2.out;have hb2:=hh.2.2.1;omega)).symm,rfl,Hd (below_drewN Br nq)⟩
    ·have d:decide (0≤x.bg)=false:=decide_eq_false t1;replace t1:=Hd t1;go_wp2_with fail;go_quiet (fail);go_wp2_with fail;go_meet;exact ⟨congrArg Value.bool (decide_eq_false (fun hh=>by have hb1:=t1.out;have hb2:=hh.2.1;omega)).symm,rfl,Hd (below_drewN Br nq)⟩
  case rest=>
  obtain ⟨rfl,rfl,HBB⟩:=hcut;rw [←HG.out];obtain ⟨W4,hW4⟩:∃W4,W4=wc:=⟨_,rfl⟩
  subst hW4;have hBW:=HM.out.b.hi;have hNW:=HM.out.n.hi;have HM4:=Hd ((HM3.out.below HBB.out).below (Below.refl W4 W4).drew);have HE4:=Hd (Des.At.drew (HE3.out.below HBB.out HE3.out.hi));have HV4:=Hd ((HV3.out.trans (Vk.ofBelow HBB.out)).trans (Vk.ofBelow (V:=vs l) (Below.refl W4 W4).drew));clear HM3 HE3 HV3 HBB;go_upto_region 6 with (fail)
  have e1:=HE4.out.cell 1 (.int .i64 (p:Int)) (by rw [←HP.out];rfl);have e5:=HE4.out.cell 5 (.int .i64 x.bg) rfl;have mB:=HM4.out.cB;have f1:=HM4.out.b.free p (by simp [ints];omega);have f2:=HM4.out.b.hi;have a1:=HM4.out.b.cell p _ HBP.out;have HM5:=Hd (HM4.out.putB p x.bg);have HE5:=Hd (HE4.out.setOther (x:=⟨l.B,p,none⟩) (by show W.heap.size≠l.B;omega) (.int .i64 x.bg));have HV5:=Hd (HV4.out.trans (Vk.set (V:=vs l) W4.drew l.B p (.int .i64 x.bg) (mvs l).2.2.2.2.2.2.2.2));obtain ⟨W5,hW5⟩:∃W5,W5=W4.drew.setCell (l.B p) x.bg:=⟨_,rfl⟩
  rw [←hW5] at HM5 HE5 HV5;have HW5:=Hd hW5;clear hW5;go_region;rw [show (W4.setCell (l.B p) x.bg).drew=W5 from HW5.out.symm] at *;clear e1 e5 mB f1 f2 a1 HM4 HE4 HV4 HW5;go_upto_region 7 with (fail)
  have HM6:=Hd (HM5.out.below (Below.refl W5 W5).drew);have HE6:=Hd (Des.At.drew HE5.out);have HV6:=Hd (HV5.out.trans (Vk.ofBelow (V:=vs l) (Below.refl W5 W5).drew));have e1:=HE6.out.cell 1 (.int .i64 (p:Int)) (by rw [←HP.out];rfl);have mN:=HM6.out.cN;have f1:=HM6.out.n.free p (by simp [ints];omega);have f2:=HM6.out.n.hi;have a1:=HM6.out.n.cell p _ HNP.out;have hwr:wrap64 (fv+1)=fv+1:=IntWalk.wrap64_in _ (by have:=HFP.out;omega);have HM7:=Hd (HM6.out.putN p (fv+1));have HV7:=Hd (HV6.out.trans (Vk.set (V:=vs l) W5.drew l.N p (.int .i64 (fv+1)) (mvs l).2.2.2.2.2.2.2.1));obtain ⟨W6,hW6⟩:∃W6,W6=W5.drew.setCell (l.N p) (.int .i64 (fv+1)):=⟨_,rfl⟩
  rw [←hW6] at HM7 HV7;have HW6:=Hd hW6;clear hW6;go_region;rw [show (W5.setCell (l.N p) (.int .i64 (fv+1))).drew=W6 from HW6.out.symm] at *;clear e1 mN f1 f2 a1 HM6 HE6 HV6 HW6;go_wp2_with fail;exact bodyPost_ret (v:=.bool rB) (by simp [results,Tryz.results38,go_sem]) rfl ⟨rfl,by rw [HS.out];exact HM7.out,HV7.out⟩
theorem hlook (W:World) (b:Nat) (hb:HMap W b 14) (k:Int) (n:Nat) (hk:k=(n:Int)+1) (hn:n<14):
 (Instr.lookup 119 (.map (some b)) (.int .i64 k) true).run Tryz.prog W=.ok (.tuple #[hV n,.bool true]) W:=by
 have hlk:=key3 (k:=k) b10 b10;have h1:(Instr.findKey 3 (.int .i64 k) (hEs 14).toList).run Tryz.prog W=.ok (some (n,hV n)) W:=by
  rcases hfind W 14 b10 k b10 b10 with ⟨_,h⟩|⟨j,a,_,h3⟩
  ·omega
  ·obtain rfl:j=n:=b10;exact a
 simp [Instr.lookup,run_underlying Tryz.underlying119,MapKept.run_getObj_map hb,keyed3.check W _ hlk,h1,Result.andThen]
open Des (At ints)
def knB (s:St) (x:Ev):Bool:=if x.pr=-1 then decide (0≤x.fi∧x.fi<(s.fs.length:Int)) else decide (0≤x.pr∧x.pr<(s.scr.length:Int)∧0≤x.ix∧x.ix<((s.scr.getD x.pr.toNat []).length:Int))
set_option maxHeartbeats 8000000 in
theorem known_any (B:Nat) (l:Ly) (s:St) (x:Ev) (W:World) (h:Mm B W l s) (hn:s.fs.length≤1000) (hsc:s.scr.length≤1000):
 Calls Tryz.prog 24 #[.pointer (some (l.M 0)),evVal x] W fun e w'=>e=.returned (.bool (knB s x))∧Below W W w':=by
 have HM:=Hd h;have HE:=Hd (Des.At.new W x.cells 64);have HBW:Hid (Below W W (W.alloc (.cells x.cells.toArray 64))):=Hd (Br.alloc Nr _);have HG:Hid (knB s x=if x.pr=-1 then decide (0≤x.fi∧x.fi<(s.fs.length:Int)) else decide (0≤x.pr∧x.pr<(s.scr.length:Int)∧0≤x.ix∧x.ix<((s.scr.getD x.pr.toNat []).length:Int))):=Hd rfl;generalize knB s x=rB at *;unfold evVal;clear h;go_enter Tryz.func24,Tryz.ntmps24;unfold Ev.cells at HE HBW;have e1:=HE.out.cell 1 (.int .i64 x.pr) rfl;go_upto_if 7 with (fail)
 generalize World.alloc W (Obj.cells #[x.tm,x.pr,x.ix,x.fi,x.at',x.bg,x.er,x.n,.string x.dat] 64)=W1 at *;have mF:=(HM.out.below HBW.out).cF;have e3:=HE.out.cell 3 (.int .i64 x.fi) rfl;by_cases hp:x.pr=-1
 ·have hd:(x.pr==-1)=true:=by simp [hp]
  rw [hd];rw [if_pos hp] at HG;clear hp hd;by_cases t1:0≤x.fi
  ·go_wp2_with fail;go_quiet (fail);go_wp2_with fail;exact bodyPost_ret (v:=.bool (decide (x.fi<(s.fs.length:Int)))) b58 rfl ⟨by rw [HG.out];exact congrArg (fun b=>Ending.returned (.bool b)) (by by_cases q:x.fi<(s.fs.length:Int)<;>simp [t1,q]),HBW.out.trans ((below_drewN Br nq).mono HBW.out.size)⟩
  ·have d:decide (0≤x.fi)=false:=decide_eq_false t1;replace t1:=Hd t1;go_wp2_with fail;go_quiet (fail);go_wp2_with fail;exact bodyPost_ret (v:=.bool (false)) b58 rfl ⟨by rw [HG.out];exact congrArg (fun b=>Ending.returned (.bool b)) ((decide_eq_false (fun hh=>by have h1:=t1.out;have h2:=hh.1;omega)).symm),HBW.out.trans ((below_drewN Br nq).mono HBW.out.size)⟩
 ·have hd:(x.pr==-1)=false:=by simp [hp]
  rw [hd];rw [if_neg hp] at HG;clear hp hd mF e3;have HS:=Hd (HM.out.below HBW.out).im.sc;obtain ⟨g,o,c,c1,c2,c3,c4,c5⟩:=HS.out;have mS:W1.cell? (l.M 19)=some (.slice (some (g o)) s.scr.length c):=by rw [←c1];exact (HM.out.below HBW.out).m.cell 19 _ rfl
  have C5:=Hd c5;have e2:=HE.out.cell 2 (.int .i64 x.ix) rfl;clear c5 c1;by_cases u1:0≤x.pr
  ·obtain ⟨p,hp⟩:∃p:Nat,x.pr=(p:Int):=⟨x.pr.toNat,by omega⟩
   generalize x.pr=pr at *;subst hp;rw [Int.toNat_natCast] at HG;by_cases u2:(p:Int)<(s.scr.length:Int)
   ·obtain ⟨u,hu,g',o',c',k1,k2,k3,k4,k5⟩:=C5.out p b10;subst k1;clear k5;generalize s.scr.getD p []=row at *;have hnI:(s.scr.length:Int)≤1000:=b10;by_cases u3:0≤x.ix
    ·go_wp2_with fail;go_quiet (fail);go_wp2_with fail;exact bodyPost_ret (v:=.bool (decide (x.ix<(row.length:Int)))) b58 rfl ⟨by rw [HG.out];exact congrArg (fun b=>Ending.returned (.bool b)) (by by_cases q:x.ix<(row.length:Int)<;>simp [u2,u3,q];all_goals omega),HBW.out.trans ((below_drewN Br nq).mono HBW.out.size)⟩
    ·have d:decide (0≤x.ix)=false:=decide_eq_false u3;replace u3:=Hd u3;go_wp2_with fail;go_quiet (fail);go_wp2_with fail;exact bodyPost_ret (v:=.bool (false)) b58 rfl ⟨by rw [HG.out];exact congrArg (fun b=>Ending.returned (.bool b)) ((decide_eq_false (fun hh=>by have h1:=u3.out;have h2:=hh.2.2.1;omega)).symm),HBW.out.trans ((below_drewN Br nq).mono HBW.out.size)⟩
   ·have d:decide (p<s.scr.length)=false:=decide_eq_false b10;replace u2:=Hd u2;go_wp2_with fail;go_quiet (fail);go_wp2_with fail;exact bodyPost_ret (v:=.bool (false)) b58 rfl ⟨by rw [HG.out];exact congrArg (fun b=>Ending.returned (.bool b)) ((decide_eq_false (fun hh=>by have h1:=u2.out;have h2:=hh.2.1;omega)).symm),HBW.out.trans ((below_drewN Br nq).mono HBW.out.size)⟩
  ·have d:decide (0≤x.pr)=false:=decide_eq_false u1;replace u1:=Hd u1;go_wp2_with fail;go_quiet (fail);go_wp2_with fail;exact bodyPost_ret (v:=.bool (false)) b58 rfl ⟨by rw [HG.out];exact congrArg (fun b=>Ending.returned (.bool b)) ((decide_eq_false (fun hh=>by have h1:=u1.out;have h2:=hh.1;omega)).symm),HBW.out.trans ((below_drewN Br nq).mono HBW.out.size)⟩
def writeR (s:St) (p:Int) (o:Opr):Res×St:=
 if lkE s p o.fd 2≠0 then (badR (lkE s p o.fd 2),s) else if (Con.writeV (s.fs.getD (Des.lookV s.d p o.fd).fi.toNat ⟨#[]⟩) (if andV (Des.lookV s.d p o.fd).fl 4≠0∧¬o.dat.size=0 then ((s.fs.getD (Des.lookV s.d p o.fd).fi.toNat ⟨#[]⟩).size:Int) else (Des.lookV s.d p o.fd).f) o.dat).2≠0 then (badR (Con.writeV (s.fs.getD (Des.lookV s.d p o.fd).fi.toNat ⟨#[]⟩) (if andV (Des.lookV s.d p o.fd).fl 4≠0∧¬o.dat.size=0 then ((s.fs.getD (Des.lookV s.d p o.fd).fi.toNat ⟨#[]⟩).size:Int) else (Des.lookV s.d p o.fd).f) o.dat).2,s) else if o.dat.size=0 then (⟨0,0,⟨#[]⟩⟩,s) else (⟨0,(o.dat.size:Int),⟨#[]⟩⟩,chS {s with d:=Des.updD s.d (Des.numV s.d p o.fd) ((if andV (Des.lookV s.d p o.fd).fl 4≠0∧¬o.dat.size=0 then ((s.fs.getD (Des.lookV s.d p o.fd).fi.toNat ⟨#[]⟩).size:Int) else (Des.lookV s.d p o.fd).f)+(o.dat.size:Int)) (Des.lookV s.d p o.fd).cu} (Des.lookV s.d p o.fd).fi.toNat (Con.writeV (s.fs.getD (Des.lookV s.d p o.fd).fi.toNat ⟨#[]⟩) (if andV (Des.lookV s.d p o.fd).fl 4≠0∧¬o.dat.size=0 then ((s.fs.getD (Des.lookV s.d p o.fd).fi.toNat ⟨#[]⟩).size:Int) else (Des.lookV s.d p o.fd).f) o.dat).1)
theorem no_bytes {d:ByteArray} (h:d.size=0):d=⟨#[]⟩:=by
 cases d with|mk a=>simp [ByteArray.size] at h;rw [h]
theorem some_bytes {d : ByteArray} (h : ¬ d.size = 0) : ¬ d.toList = [] := fun e => h (by
 rw [ByteArray.toList_eq] at e;have:d.data.toList.length=0:=by rw [e];rfl
 rw [Array.length_toList] at this;exact this)
namespace Agsh
theorem km1 {p : Prop} (h:p:=by
 exact bodyPost_ret (v:=.agg #[le,I,J,.nilFunc]) b100 rfl ⟨_,rfl,HP.bel,Or.inl ⟨rfl,rfl⟩⟩):p:=h
theorem km21 {p : Prop} (h:p:=by
 by_cases hz:le=0
 ·subst hz;have HE2:=Hd (HE.out.trans (if_neg b11));clear HE;have HE:=HE2;clear HE2;obtain ⟨⟨hf0,hf1⟩,f,hf,hfn⟩:=HLZ.out rfl;rw [hf,Int.toNat_natCast] at HE;have HFI:Hid (D.fi=(f:Int)):=Hd hf;exact cm80
 ·exact cm53):p:=h
theorem km49 {p : Prop} (h:p:=by
 generalize writeR s p o=PR at *;generalize lkE s p o.fd 2=le at *;generalize Des.numV s.d p o.fd=nv at *;generalize Des.lookV s.d p o.fd=D at *;go_enter Tryz.func68,Tryz.ntmps68;exact cm21):p:=h
theorem km4 {p : Prop} (h:p:=by
 exact cm78):p:=h
theorem km78 {p : Prop} (h:p:=by
 exact bodyPost_ret (v:=.agg #[TE,I,J,.nilFunc]) b100 rfl ⟨_,rfl,HP.bel,Or.inl ⟨rfl,rfl⟩⟩):p:=h
theorem km80 {p : Prop} (h:p:=by
 have HCB0:=Hd (fun F W'=>HCA.out sd F W' hsd);clear HCA HLZ hf;have hfI:(f:Int)<(s.fs.length:Int):=b10;have hnI:(s.fs.length:Int)≤1000:=b10;have hdI:(sd.size:Int)≤1000:=b10;have hdJ:(o.dat.size:Int)≤1000:=b10;go_upto_region 4 with (fail)
 go_cut [26] (fun v wx=>v=.bool (decide (andV D.fl 4≠0∧¬o.dat.size=0))∧W1=wx)
 case first=>
  have d1:=HK.out.cell 1 (.int .i64 D.fl) rfl;by_cases ha:andV D.fl 4=0
  ·have ha1:bits BinOp.and IntKind.i64 D.fl 4=0:=ha;go_wp2_with fail;go_meet;exact ⟨by simp [ha],rfl⟩
  ·have ha1:¬bits BinOp.and IntKind.i64 D.fl 4=0:=ha;have ha2:(bits BinOp.and IntKind.i64 D.fl 4==0)=false:=by simpa using ha1
   by_cases hd:o.dat.size=0
   ·have t9:=HX.out.t.cell 9 (.string ⟨#[]⟩) (by rw [HCS.out,←no_bytes hd];rfl);go_wp2_with fail;go_meet;exact ⟨by simp [hd],rfl⟩
   ·have t9:=HX.out.t.cell 9 (.string o.dat) b13;have hd1:=some_bytes hd;have hd2:¬o.dat=⟨#[]⟩:=fun e=>hd (by rw [e];rfl);go_wp2_with fail;go_meet;exact ⟨by simp [ha,hd];exact ⟨ha1,hd1⟩,rfl⟩
 case rest=>
 obtain ⟨rfl,rfl⟩:=hcut
 skip
 go_upto_if 26 with (fail)
 go_cut [5] (fun v wx=>v=.int .i64 0∧∃q:Int,q=(if andV D.fl 4≠0∧¬o.dat.size=0 then (sd.size:Int) else D.f)∧Hid (Bx2 W wx W.heap.size (W.heap.size+1) cs [I,I,J,.nilFunc])∧Hid (At wx N [nv])∧Hid (At wx K [D.fi,D.fl,q,D.cu,D.rf]))
 case first=>
  by_cases hc:andV D.fl 4≠0∧¬o.dat.size=0
  ·have hd:decide (andV D.fl 4≠0∧¬o.dat.size=0)=true:=decide_eq_true hc;rw [hd];have HC9:=Hd hc;clear hc hd;replace HX:=Hd (HX.out.below Br.drew);replace HN:=Hd (Des.At.drew HN.out);replace HK:=Hd (Des.At.drew HK.out);obtain ⟨⟨d0,d1,d2,d3,d4⟩,⟨f0,f1,f2,f3,f4⟩,fh⟩:=Des.At.five HK.out;replace d0:W1.drew.cell? (K 0)=some (f:U):=by rw [←HFI.out];exact d0
   have t0:=HX.out.t.cell 0 (.pointer (some (l.M 0))) b13;have mF:=(HM.out.below HX.out.bel).cF;have a:=(HM.out.below HX.out.bel).f.cell f (.string sd) HFC.out;go_wp2_with fail;go_region;go_wp2_with fail;go_meet;refine ⟨rfl,_,(if_pos HC9.out).symm,?_,?_,?_⟩
   ·exact Hd ⟨HX.out.bel.setCell (p:=(K 2)) b72 _,HX.out.t.setOther (x:=⟨K,2,none⟩) b73 _,HX.out.r.setOther (x:=⟨K,2,none⟩) b74 _,HX.out.lo,HX.out.tr⟩
   ·exact Hd (HN.out.setOther (x:=⟨K,2,none⟩) b75 _)
   ·exact Hd (HK.out.set 2 (.int .i64 (sd.size:Int)))
  ·have hd:decide (andV D.fl 4≠0∧¬o.dat.size=0)=false:=decide_eq_false hc;rw [hd];have HC9:=Hd hc;clear hc hd;go_wp2_with fail;go_meet;exact ⟨rfl,_,(if_neg HC9.out).symm,HX,HN,HK⟩
 case rest=>
 clear HX HN HK;obtain ⟨rfl,q,hq,HX,HN,HK⟩:=hcut;have hq0:0≤q∧q≤1000:=by rw [hq];split<;>omega
 rw [←hq] at HE;clear hq;obtain ⟨hq0,hq1⟩:=hq0;have HCB:=Hd (HCB0.out q);clear HCB0 hf0 hf1;obtain ⟨TD,TE,hte⟩:∃TD TE,Con.writeV sd q o.dat=(TD,TE):=⟨_,_,rfl⟩
 rw [hte] at HE HCB;simp only at HE HCB;clear hte;go_upto_region 6 with (fail)
 skip
 obtain ⟨W2,hW2⟩:∃W2,W2=wc:=⟨_,rfl⟩
 subst hW2;have HM1:=Hd (HM.out.below HX.out.bel);have HKh:Hid (K<W2.heap.size):=Hd HK.out.hi;have HNh:Hid (N<W2.heap.size):=Hd HN.out.hi;go_cut [5,6] (fun s5 s6 wx=>∃O,s5=.int .i64 TE∧s6=.pointer (some ⟨O,0,none⟩)∧Hid (Nb W2 wx O [.string TD]))
 case first=>
  exact cm128
 case rest=>
 obtain ⟨O,rfl,rfl,HO⟩:=hcut;replace HX:=Hd (HX.out.below HO.out.bel);replace HN:=Hd (HN.out.below HO.out.bel HN.out.hi);replace HK:=Hd (HK.out.below HO.out.bel HK.out.hi);clear HCB;by_cases hu:TE=0
 ·subst hu;have HE2:=Hd (HE.out.trans (if_neg b11));clear HE;have HE:=HE2;clear HE2;obtain ⟨⟨d0,d1,d2,d3,d4⟩,⟨f0,f1,f2,f3,f4⟩,fh⟩:=Des.At.five HK.out;have t9:=HX.out.t.cell 9 (.string o.dat) b13;have hwr:wrap64 (q+(o.dat.size:Int))=q+(o.dat.size:Int):=IntWalk.wrap64_in _ b10;have HX2:Hid (Bx2 W (wc.setCell (K 2) (.int .i64 (q+(o.dat.size:Int)))) W.heap.size (W.heap.size+1) cs [I,I,J,.nilFunc]):=Hd ⟨HX.out.bel.setCell (p:=(K 2)) b72 _,HX.out.t.setOther (x:=⟨K,2,none⟩) b73 _,HX.out.r.setOther (x:=⟨K,2,none⟩) b74 _,HX.out.lo,HX.out.tr⟩;have HK2:=Hd (HK.out.set 2 (.int .i64 (q+(o.dat.size:Int))));have HN2:Hid (At (wc.setCell (K 2) (.int .i64 (q+(o.dat.size:Int)))) N [nv]):=Hd (HN.out.setOther (x:=⟨K,2,none⟩) b75 _);have HO2:Hid (At (wc.setCell (K 2) (.int .i64 (q+(o.dat.size:Int)))) O [.string TD]):=Hd (HO.out.at'.setOther (x:=⟨K,2,none⟩) (by have:=HO.out.lo;have:=HKh.out;show O≠K;omega) _);go_upto_region 10 with (fail)
  generalize wc.setCell (K 2) (.int .i64 (q+(o.dat.size:Int)))=W3 at *;replace HK2:Hid (At W3 K [D.fi,D.fl,.int .i64 (q+(o.dat.size:Int)),D.cu,D.rf]):=HK2;have HOl:Hid (W2.heap.size≤O):=Hd HO.out.lo;replace HX:=HX2;clear HX2 HK HN HO d0 d1 d2 d3 d4 f0 f1 f2 f3 f4 fh hwr t9;by_cases hd:o.dat.size=0
  ·have t9:=HX.out.t.cell 9 (.string ⟨#[]⟩) (by rw [HCS.out,←no_bytes hd];rfl);obtain ⟨PR1,PR2⟩:=PR;obtain ⟨rfl,rfl⟩:PR1=_∧PR2=_:=by have:=HE.out.trans (if_pos hd);exact ⟨congrArg Prod.fst this,congrArg Prod.snd this⟩
   clear HE;clear hd;obtain ⟨_,⟨r0,r1,r2,r3⟩,rh⟩:=At.four HX.out.r;obtain ⟨rc0,rc1,rc2,rc3⟩:=(At.four HX.out.r).1;go_wp2_with fail;change bodyPost _ _ _ _ _ ((((W3.setCell (W 1 0) I).setCell (W 1 1) I).setCell (W 1 2) J).setCell (W 1 3) (.nilFunc));generalize hwB:(((W3.setCell (W 1 0) I).setCell (W 1 1) I).setCell (W 1 2) J).setCell (W 1 3) (.nilFunc)=w9 at *;have HP:Bx2 W w9 W.heap.size (W.heap.size+1) cs [I,I,J,.nilFunc]:=by rw [←hwB];exact HX.out.putR [I,I,J,.nilFunc] rfl
   skip
   clear r0 r1 r2 r3 rc0 rc1 rc2 rc3;obtain ⟨⟨q0,q1,q2,q3⟩,_,_⟩:=At.four HP.r;exact bodyPost_ret (v:=.agg #[I,I,J,.nilFunc]) b100 rfl ⟨_,rfl,HP.bel,Or.inl ⟨rfl,rfl⟩⟩
  ·have t9:=HX.out.t.cell 9 (.string o.dat) b13;have hd1:=some_bytes hd;have hd2:¬o.dat=⟨#[]⟩:=fun e=>hd (by rw [e];rfl);obtain ⟨PR1,PR2⟩:=PR;obtain ⟨rfl,rfl⟩:PR1=_∧PR2=_:=by have:=HE.out.trans (if_neg hd);exact ⟨congrArg Prod.fst this,congrArg Prod.snd this⟩
   clear HE;clear hd;replace hmf:=hmf'.out;have hd3:o.dat.toList.isEmpty=false:=by cases h9:o.dat.toList with|nil=>exact absurd h9 hd1|cons a b=>rfl
   obtain ⟨_,⟨r0,r1,r2,r3⟩,rh⟩:=At.four HX.out.r;obtain ⟨rc0,rc1,rc2,rc3⟩:=(At.four HX.out.r).1;go_wp2_with fail;generalize hwB:(((W3.setCell (W 1 0) I).setCell (W 1 1) o.dat.size).setCell (W 1 2) J).setCell (W 1 3) (.func (.func 96) #[] #[.pointer (some (W 0 0)),.pointer (some (N 0)),.pointer (some (K 0)),.pointer (some ⟨O,0,none⟩)])=w9 at *;have HP:Bx2 W w9 W.heap.size (W.heap.size+1) cs [I,o.dat.size,J,.func (.func 96) #[] #[.pointer (some (W 0 0)),.pointer (some (N 0)),.pointer (some (K 0)),.pointer (some ⟨O,0,none⟩)]]:=by rw [←hwB];exact HX.out.putR [I,o.dat.size,J,.func (.func 96) #[] #[.pointer (some (W 0 0)),.pointer (some (N 0)),.pointer (some (K 0)),.pointer (some ⟨O,0,none⟩)]] rfl
   skip
   have HAN:Hid (At w9 N [nv]):=Hd (by rw [←hwB];exact HN2.out.apart b43 0 [I,o.dat.size,J,.func (.func 96) #[] #[.pointer (some (W 0 0)),.pointer (some (N 0)),.pointer (some (K 0)),.pointer (some ⟨O,0,none⟩)]]);have HAK:Hid (At w9 K [D.fi,D.fl,.int .i64 (q+(o.dat.size:Int)),D.cu,D.rf]):=Hd (by rw [←hwB];exact HK2.out.apart b43 0 [I,o.dat.size,J,.func (.func 96) #[] #[.pointer (some (W 0 0)),.pointer (some (N 0)),.pointer (some (K 0)),.pointer (some ⟨O,0,none⟩)]]);have HAO:Hid (At w9 O [.string TD]):=Hd (by rw [←hwB];exact HO2.out.apart (by have:=HOl.out;have:=HKh.out;have:=HKN.out;omega) 0 [I,o.dat.size,J,.func (.func 96) #[] #[.pointer (some (W 0 0)),.pointer (some (N 0)),.pointer (some (K 0)),.pointer (some ⟨O,0,none⟩)]]);clear r0 r1 r2 r3 rc0 rc1 rc2 rc3;obtain ⟨⟨q0,q1,q2,q3⟩,_,_⟩:=At.four HP.r;exact bodyPost_ret (v:=.agg #[I,o.dat.size,J,.func (.func 96) #[] #[.pointer (some (W 0 0)),.pointer (some (N 0)),.pointer (some (K 0)),.pointer (some ⟨O,0,none⟩)]]) b100 rfl ⟨_,rfl,HP.bel,Or.inr ⟨96,_,rfl,fun _ _=>rfl,fun W2' hf2=>clo96 B l s p o x nv ⟨D.fi,D.fl,q+(o.dat.size:Int),D.cu,D.rf⟩ f TD W.heap.size N K O W2' (hf2.mm HP.bel) hr hfn b10 hn (hl f b10) HFI.out b33 (hf2.at HAN.out b23) (hf2.at HAK.out b23) (hf2.at HAO.out b23) (fun hm=>by have:=HM.out.hi _ hm;omega) (fun hm=>by have:=HM.out.hi _ hm;have:=HKN.out;omega) (fun hm=>by have:=HM.out.hi _ hm;have:=HOl.out;have:=HKh.out;have:=HKN.out;omega)⟩⟩
 ·have hu':(TE==0)=false:=by simpa using hu
  exact cm116):p:=h
theorem km81 {p : Prop} (h:p:=by
 exact cm109):p:=h
theorem km109 {p : Prop} (h:p:=by
 have HLZ:Hid (lkE s p o.fd 2=0→(0≤(Des.lookV s.d p o.fd).f∧(Des.lookV s.d p o.fd).f≤128)∧∃f:Nat,(Des.lookV s.d p o.fd).fi=(f:Int)∧f<s.fs.length):=Hd fun h0=>⟨by
  have h4:=(lk_zero h0 hr).2.2.1;unfold Des.rightD Des.movB at h4;rw [Bool.and_eq_true,Bool.and_eq_true] at h4;exact of_decide_eq_true h4.2.1,(lk_zero h0 hr).2.2.2⟩
 have HE:Hid (writeR s p o=if lkE s p o.fd 2≠0 then (badR (lkE s p o.fd 2),s) else if (Con.writeV (s.fs.getD (Des.lookV s.d p o.fd).fi.toNat ⟨#[]⟩) (if andV (Des.lookV s.d p o.fd).fl 4≠0∧¬o.dat.size=0 then ((s.fs.getD (Des.lookV s.d p o.fd).fi.toNat ⟨#[]⟩).size:Int) else (Des.lookV s.d p o.fd).f) o.dat).2≠0 then (badR (Con.writeV (s.fs.getD (Des.lookV s.d p o.fd).fi.toNat ⟨#[]⟩) (if andV (Des.lookV s.d p o.fd).fl 4≠0∧¬o.dat.size=0 then ((s.fs.getD (Des.lookV s.d p o.fd).fi.toNat ⟨#[]⟩).size:Int) else (Des.lookV s.d p o.fd).f) o.dat).2,s) else if o.dat.size=0 then (⟨0,0,⟨#[]⟩⟩,s) else (⟨0,(o.dat.size:Int),⟨#[]⟩⟩,chS {s with d:=Des.updD s.d (Des.numV s.d p o.fd) ((if andV (Des.lookV s.d p o.fd).fl 4≠0∧¬o.dat.size=0 then ((s.fs.getD (Des.lookV s.d p o.fd).fi.toNat ⟨#[]⟩).size:Int) else (Des.lookV s.d p o.fd).f)+(o.dat.size:Int)) (Des.lookV s.d p o.fd).cu} (Des.lookV s.d p o.fd).fi.toNat (Con.writeV (s.fs.getD (Des.lookV s.d p o.fd).fi.toNat ⟨#[]⟩) (if andV (Des.lookV s.d p o.fd).fl 4≠0∧¬o.dat.size=0 then ((s.fs.getD (Des.lookV s.d p o.fd).fi.toNat ⟨#[]⟩).size:Int) else (Des.lookV s.d p o.fd).f) o.dat).1)):=Hd rfl;exact cm49):p:=h
theorem km116 {p : Prop} (h:p:=by
 go_wp2_with fail;refine (bad_any TE _).mono ?_;exact cm4):p:=h
theorem km53 {p : Prop} (h:p:=by
 clear HCA HLZ;exact cm1):p:=h
theorem km128 {p : Prop} (h:p:=by
 have hm2:K<W2.heap.size:=HKh.out;have f2a:¬W2.heap.size=K:=b10;have f2b:¬K=W2.heap.size:=b10;have yt0:=HX0.out.t.cell 0 (.pointer (some (l.M 0))) b13;have yt9:=HX0.out.t.cell 9 (.string o.dat) b13;have ymF:=(HM.out.below HX0.out.bel).cF;have ya:=(HM.out.below HX0.out.bel).f.cell f (.string sd) HFC.out;have yd:=(HK.out).cell 0 (.int .i64 (f:Int)) b18;have yb:=(HK.out).cell 2 (.int .i64 q) rfl;have t0:=HX.out.t.cell 0 (.pointer (some (l.M 0))) b13;have t9:=HX.out.t.cell 9 (.string o.dat) b13;have mF:=(HM.out.below HX.out.bel).cF;have a:=(HM.out.below HX.out.bel).f.cell f (.string sd) HFC.out;have d:=(HK.out.below ((Below.refl W2 W2).drew) HK.out.hi).cell 0 (.int .i64 (f:Int)) b18;have b:=(HK.out.below ((Below.refl W2 W2).drew) HK.out.hi).cell 2 (.int .i64 q) rfl;go_region_held3 (fun w'=>w'.cell? (W 0 0)=some (.pointer (some (l.M 0)))∧w'.cell? (W 0 9)=some (.string o.dat)∧w'.cell? (l.M 21)=some (.slice (some (l.F 0)) s.fs.length s.fs.length)∧w'.cell? (l.F f)=some (.string sd)∧w'.cell? (K 0)=some (f:U)∧w'.cell? (K 2)=some (q:U)) (go_keep) (first|(go_at_call 95;refine (HCB.out _).mono ?_;rintro e w2 ⟨rfl,hb⟩;(first|(have HA:=Hd hb;have HKB:=Hd (HK.out.below ((Below.refl W2 W2).drew.trans hb) HK.out.hi);replace HX:=Hd (HX.out.below hb))|(have HB:=Hd hb;have HKB:=Hd (HK.out.below (((Below.refl W2 W2).alloc Nr _).drew.trans (hb.mono b126)) HK.out.hi);obtain ⟨_,f0,fh⟩:=At.one (((At.new W2 [J] 9).drew).below hb b99);replace HX:=Hd ((HX.out.below (Br.alloc Nr _)).below hb)));clear hb t0 t9 mF a d b;have t0:=HX.out.t.cell 0 (.pointer (some (l.M 0))) b13;have t9:=HX.out.t.cell 9 (.string o.dat) b13;have mF:=(HM.out.below HX.out.bel).cF;have a:=(HM.out.below HX.out.bel).f.cell f (.string sd) HFC.out;have d:=(HKB.out).cell 0 (.int .i64 (f:Int)) b18;have b:=(HKB.out).cell 2 (.int .i64 q) rfl))
 all_goals
  go_wp2_with fail;go_meet;first|exact ⟨_,rfl,rfl,Hd (Nb.after ((Below.refl W2 W2).drew.trans HA.out) [.string TD] 9)⟩|exact ⟨_,rfl,rfl,Hd (Nb.before (T:=9) (zs:=[J]) ((Below.refl (W2.alloc _).heap.size (W2.alloc _)).drew.trans HB.out) [.string TD] rfl)⟩):p:=h
end Agsh
open Agsh in
set_option maxHeartbeats 8000000 in
theorem write_any (B:Nat) (l:Ly) (s:St) (p:Int) (o:Opr) (x:Ev) (W:World) (h:Mm B W l s) (hr:Des.Rt s.d) (hn:s.fs.length≤1000) (hsz:∀y,y∈s.fs→y.size≤1000) (hfh:s.h.length=s.fs.length) (hl:∀i,i<s.h.length→(s.h.getD i ([],0)).1.length≤10000) (hdat:o.dat.size≤1000):
 Calls Tryz.prog 68 #[stepV l.M p o x] W (PlanP B W l s (writeR s p o).1 (writeR s p o).2):=by
 exact cm81
end Go.Proofs.YtimhaidiclbnhaaGreat.Ver
namespace Go.Proofs.YtimhaidiclbnhaaGreat.Con
def allTo (l:List ByteArray) (q:Nat) (s:ByteArray) (k:Nat):Bool:=(List.range k).all fun i=>(l.drop q).any fun x=>bat x i==bat s i
theorem allTo_succ (l:List ByteArray) (q:Nat) (s:ByteArray) (k:Nat):allTo l q s (k+1)=(allTo l q s k&&(l.drop q).any fun x=>bat x k==bat s k):=by
 unfold allTo;rw [List.range_succ,List.all_append];simp
def mayV (l:List ByteArray) (q:Int) (s:ByteArray):Bool:=decide (0≤q∧q<l.length)&&(allTo l q.toNat s 128&&(l.drop q.toNat).any fun x=>x.size==s.size)
theorem mayV_out {l:List ByteArray} {q:Int} {s:ByteArray} (h:q<0∨(l.length:Int)≤q):mayV l q s=false:=by
 unfold mayV;rw [decide_eq_false b10];rfl
theorem mayV_in {l:List ByteArray} {q:Nat} {s:ByteArray} (h:q<l.length):mayV l (q:Int) s=(allTo l q s 128&&(l.drop q).any fun x=>x.size==s.size):=by
 unfold mayV;rw [decide_eq_true b10,Bool.true_and,show ((q:Int)).toNat=q from by omega]
theorem allTo_false {l:List ByteArray} {q:Nat} {s:ByteArray} {k n:Nat} (h:((l.drop q).any fun x=>bat x k==bat s k)=false) (hk:k<n):allTo l q s n=false:=by
 unfold allTo;rw [List.all_eq_false];exact ⟨k,List.mem_range.2 hk,by rw [h];simp⟩
end Go.Proofs.YtimhaidiclbnhaaGreat.Con
namespace Go.Proofs.YtimhaidiclbnhaaGreat.Ver
open Des (At)
theorem flatk_at {α:Type} (f:α→List Value) (m:Nat) (hf:∀a,(f a).length=m) (d:α):∀(xs:List α) (i j:Nat),i<xs.length→j<m→(xs.flatMap f)[i*m+j]? =(f (xs.getD i d))[j]?
 |[],i,j,h,_=>absurd h (Nat.not_lt_zero _)
 |x::xs,0,j,_,hj=>by
  rw [List.flatMap_cons,Nat.zero_mul,Nat.zero_add,List.getElem?_append_left (by rw [hf];exact hj)];rfl
 |x::xs,i+1,j,h,hj=>by
  rw [List.flatMap_cons,List.getElem?_append_right (by rw [hf,Nat.add_mul];omega),hf,show (i+1)*m+j-m=i*m+j by rw [Nat.add_mul];omega];have:=flatk_at f m hf d xs i j b35 hj;rw [this];rfl
theorem tock_own {t:Nat} {w w':World} (h:Tock t w w') {base:Nat} {e:TypeId} {size:Nat} {v:Value} {n:Nat} {xs:List Value} (hr:w.ownsRow base e size v n xs) (hb:t<base):w'.ownsRow base e size v n xs:=by
 refine own_keepB hr fun q hq=>?_
 rcases hr.2 with ⟨h1,_⟩|⟨g,cap,cur,h1,h2,h3,_⟩
 ·rw [h1] at hq;cases hq
 ·rw [h1] at hq;have hq:some g=some q:=hq;rw [←Option.some.inj hq];refine h.block g b10 ?_;rcases Nat.lt_or_ge g w.heap.size with hl|hl
  ·exact hl
  ·rw [Array.getElem?_eq_none hl] at h3;cases h3
theorem own_new {w:World} {cs:List Value} {e:TypeId} {n size base:Nat} (hl:cs.length=n*size) (hn:n≤maxLen) (hb:base≤w.heap.size):(w.alloc (.cells cs.toArray e)).ownsRow base e size (.slice (some (w 0 0)) n n) n cs:=
 ⟨hl,Or.inr ⟨w.heap.size,n,cs.toArray,rfl,hb,Go.heap_alloc_new w _,Nat.le_refl _,hn,by simpa using hl,by rw [←hl];simp⟩⟩
theorem own_cell {w:World} {base:Nat} {e:TypeId} {size g c n:Nat} {xs:List Value} (h:w.ownsRow base e size (.slice (some (g 0)) n c) n xs):(g<w.heap.size∧base≤g∧n≤c∧c≤maxLen)∧∀j u,xs[j]? =some u→w.cell? (g j)=some u:=by
 rcases h.2 with ⟨h1,_⟩|⟨g2,cap,cur,h1,h2,h3,h4,h5,h6,h7⟩
 ·cases h1
 ·cases h1;refine ⟨⟨(Array.getElem?_eq_some_iff.1 h3).1,h2,h4,h5⟩,fun j u hu=>?_⟩;rw [cell_of_row w g j cur e (0,0) h3];rw [←h7,List.getElem?_take] at hu;split at hu
  ·simpa using hu
  ·cases hu
theorem own_sl {w:World} {base:Nat} {e:TypeId} {size n:Nat} {v:Value} {xs:List Value} (h:w.ownsRow base e size v n xs):∃a c,v=.slice a n c:=by
 rcases h.2 with ⟨h1,h2⟩|⟨g,cap,cur,h1,_⟩
 ·rw [h2];exact ⟨_,_,h1⟩
 ·exact ⟨_,_,h1⟩
theorem own_lo {w:World} {base base2:Nat} {e:TypeId} {size n:Nat} {v:Value} {xs:List Value} (h:w.ownsRow base e size v n xs) (hb:base2≤base):w.ownsRow base2 e size v n xs:=by
 obtain ⟨h0,h1⟩:=h;refine ⟨h0,?_⟩;rcases h1 with h1|⟨g,cap,cur,h1,h2,h3⟩
 ·exact Or.inl h1
 ·exact Or.inr ⟨g,cap,cur,h1,Nat.le_trans hb h2,h3⟩
end Go.Proofs.YtimhaidiclbnhaaGreat.Ver
