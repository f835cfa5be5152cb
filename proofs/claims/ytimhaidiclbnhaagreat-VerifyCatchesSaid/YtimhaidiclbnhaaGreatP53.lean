import Derived.Test.YtimhaidiclbnhaaGreatP51
set_option linter.unusedSimpArgs false
set_option linter.unusedVariables false
set_option maxRecDepth 100000
open Go.ChangeShapes Go.WideShapes Go.ChangeAt Go.RowKit
namespace Go.Proofs.YtimhaidiclbnhaaGreat.Ver
open Des (Dv De Dn DIn DBlk DAns Vi At RowOf ints DSz)
open Ara (Ar ARow)
open Con (StrRow)
namespace Ayaf
theorem km2 {p : Prop} (h:p:=by
 have HOPA:Hid (∀p i,opAt (begS scr 2 []) p i=(scr.getD p []).getD i Opr.zero):=Hd fun _ _=>rfl;have HKN:Hid (∀x:Ev,knB (begS scr 2 []) x=true→x.pr=-1∨(0≤x.pr∧x.pr<(scr.length:Int)∧0≤x.ix∧x.ix<((scr.getD x.pr.toNat []).length:Int))):=Hd fun x hx=>kn_parts hx;have HCF:Hid ((cfgC (.slice (some (W 1 0)) 2 2) (.slice sa scr.length scp))[19]? =some (.slice sa scr.length scp)):=Hd rfl;exact cm37):p:=h
theorem km37 {p : Prop} (h:p:=by
 have HHIx:Hid (∀(B:Nat) (xs:List Ev) (lv:Value) (v:Value) (ys:List Ev) (wr:World),PsL W w3 B w2.heap.size a1 len1 cap1 scr sa scp (cfgC (.slice (some (W 1 0)) 2 2) (.slice sa scr.length scp)) (begS scr 2 []) xs lv wr→EvRow wr v ys→ys.length≤60→(∀y,y∈ys→knB (begS scr 2 []) y=true)→Calls Tryz.prog 11 #[.agg (cfgC (.slice (some (W 1 0)) 2 2) (.slice sa scr.length scp)).toArray,σ,v] wr (HisP wr 2 (begS scr 2 []) ys)):=Hd fun B xs lv v ys wr h hev hy hk=>histories_any 2 _ 2 scr sa scp none 0 [] v ys wr (h.cin HNS.out HOPS.out (Or.inl ⟨rfl,rfl,rfl⟩) b11 (fun s h=>by cases h) hev hy hk);exact cm90):p:=h
theorem km66 {p : Prop} (h:p:=by
 generalize w4.heap.size=B at *;generalize w2.heap.size=K at *;have HL60:Hid (xs.length≤60):=Hd hxl;go_wp2_with fail;go_loopw [9] (fun v9 wr=>∃i:Nat,i≤xs.length∧v9=.int .i64 (i:Int)∧Hid (Below w5 w5 wr)) (fun v9 _=>100-(intOf v9).toNat)
 case atStart=>exact ⟨0,Nat.zero_le _,rfl,Below.refl _ _⟩
 case round=>
  obtain ⟨i,hi,rfl,HB⟩:=hrel;by_cases hlt:i<xs.length
  ·have hltI:(i:Int)<(xs.length:Int):=b10;have HLr:=Hd (HL.out.below HB.out);obtain ⟨g,hg⟩:∃g,la=some ⟨g,0,none⟩:=by
    obtain ⟨g,c,he,_⟩:=HL.out.own.form b10;cases he;exact ⟨g,rfl⟩
   subst hg;obtain ⟨hc1,hc2⟩:(xs.length:Int)≤(lc:Int)∧(lc:Int)≤9223372036854775807:=by
    have h2:=(own_cell HL.out.own).1;unfold maxLen at h2;omega
   have HCS:Hid (wr.rangeAt g (i*9) (xs.getD i Ev.zero).cells):=Hd fun j v hj=>(ev_cell HLr.out.own hlt j v hj).1;have HKX:=Hd (HKN.out (xs.getD i Ev.zero) (HL.out.kn _ b141));have HCR:Hid (∀d,(xs.getD i Ev.zero).pr≠-1→(opAt s0 (xs.getD i Ev.zero).pr.toNat (xs.getD i Ev.zero).ix.toNat).kd=3∨(opAt s0 (xs.getD i Ev.zero).pr.toNat (xs.getD i Ev.zero).ix.toNat).kd=11→0<(xs.getD i Ev.zero).dat.size→d≠(xs.getD i Ev.zero).dat→(runS s0 (xs.set i {xs.getD i Ev.zero with dat:=d}) (xs.set i {xs.getD i Ev.zero with dat:=d}).length).2=[((i:Int),1)]):=Hd fun d h1 h2 h3 h4=>by rw [List.length_set];exact catch_read HRI.out hlt h1 h2 h3 d h4
   have HCY:Hid ((xs.getD i Ev.zero).pr≠-1→(opAt s0 (xs.getD i Ev.zero).pr.toNat (xs.getD i Ev.zero).ix.toNat).kd=8→(xs.getD i Ev.zero).er=10→(runS s0 (xs.set i {xs.getD i Ev.zero with er:=0}) (xs.set i {xs.getD i Ev.zero with er:=0}).length).2=[((i:Int),3)]):=Hd fun h1 h2 h3=>by rw [List.length_set];exact catch_sync HRI.out hlt h1 h2 h3
   have HKY:Hid (∀d er,(∀y,y∈xs.set i {xs.getD i Ev.zero with dat:=d}→knB s0 y=true)∧(∀y,y∈xs.set i {xs.getD i Ev.zero with er:=er}→knB s0 y=true)):=Hd fun d er=>by
    have hk:=HL.out.kn (xs.getD i Ev.zero) b141;refine ⟨fun y hy=>?_,fun y hy=>?_⟩<;>rcases List.mem_or_eq_of_mem_set hy with h|h
    ·exact HL.out.kn y h
    ·rw [h];exact hk
    ·exact HL.out.kn y h
    ·rw [h];exact hk
   obtain ⟨X,hX⟩:∃X,X=xs.getD i Ev.zero:=⟨_,rfl⟩
   rw [←hX] at HCS HKX HCR HCY HKY;have HX:=Hd hX;clear hX;simp only [HOPA.out] at HCR HCY;go_wp2_with (with_reducible refine Des.hold_load 64 rfl ?_)
   refine Des.load_ato (i*9) HCS.out Tryz.underlying64 rfl size64 rfl rfl rfl ?_;have HZZ:=Hd (At.new wr [I,I,I,I,I,I,I,I,J] 64);go_wp2_with (with_reducible refine Des.hold_store 64 rfl ?_)
   refine Des.store_ato 0 (n:=9) X.cells HZZ.out.t rfl size64 (by simp [Ev.cells,Value.oneCell']) rfl rfl rfl rfl ?_;intro w6 hw6;have HE:Hid (At w6 wr.heap.size X.cells):=Hd (by rw [hw6];exact HZZ.out.store _ rfl);have HB6:Hid (Below wr wr w6):=Hd (by rw [hw6];exact below_setCells (Br.alloc Nr _) Nr _ 0);have HB56:=Hd (HB.out.trans (HB6.out.mono HB.out.size));have HL6:=Hd (HLr.out.below HB6.out);clear hw6 HZZ HLr HCS HB;have e1:=HE.out.cell 1 (.int .i64 X.pr) rfl;by_cases hneg:X.pr<0
   ·go_wp2_with fail;go_roundw
    case rel=>exact ⟨i+1,by omega,by go_num,HB56⟩
    case measure=>simp [intOf];omega
   ·have HPN:Hid (X.pr≠-1):=Hd b10;obtain ⟨p0,p1,x0,x1⟩:0≤X.pr∧X.pr<(scr.length:Int)∧0≤X.ix∧X.ix<((scr.getD X.pr.toNat []).length:Int):=by
     rcases HKX.out with h|h
     ·exact absurd h HPN.out
     ·exact h
    obtain ⟨p,hp⟩:=Int.eq_ofNat_of_zero_le p0;obtain ⟨ix,hix⟩:=Int.eq_ofNat_of_zero_le x0;obtain ⟨kd,hkd⟩:∃kd,kd=((scr.getD X.pr.toNat []).getD X.ix.toNat Opr.zero).kd:=⟨_,rfl⟩
    rw [←hkd] at HCR HCY;rw [hp,Int.toNat_natCast,hix,Int.toNat_natCast] at hkd;rw [hp] at p1 e1;rw [hix,hp,Int.toNat_natCast] at x1;have HPI:=Hd hp;have HIX:=Hd hix;have HKD:=Hd hkd;have HSC:Hid (∀w',PsL W w3 B K a1 len1 cap1 scr sa scp cf s0 xs (.slice (some ⟨g,0,none⟩) xs.length lc) w'→∃gs os g2 o2 n2 c2,sa=some ⟨gs,os,none⟩∧((scr.length:Int)≤scp∧(scp:Int)≤9223372036854775807)∧w'.cell? ⟨gs,os+p,none⟩=some (.slice (some ⟨g2,o2,none⟩) n2 c2)∧((ix:Int)<n2∧(n2:Int)≤c2∧(c2:Int)≤9223372036854775807)∧w'.cell? ⟨g2,o2+ix*9,none⟩=some (.int .i64 kd)):=Hd fun w' h=>by
     obtain ⟨gs,os,c,h1,h2,h3,h4,h5⟩:=h.sc;obtain ⟨u,h6,g2,o2,c2,h7,h8,h9,h10,h11⟩:=h5 p b10;cases h1;have h12:=(h11 ix b10).c 0 (.int .i64 ((scr.getD p []).getD ix Opr.zero).kd) rfl;unfold maxLen at h4 h10;exact ⟨gs,os,g2,o2,_,c2,rfl,by omega,by rw [h6,h7],by omega,by rw [HKD.out];exact h12⟩
    clear hp hix hkd hneg p0 x0 HKX e1;have e1:=HE.out.cell 1 (.int .i64 (p:Int)) (by rw [←HPI.out];rfl);obtain ⟨i0,hi0,hz0,hzs,hzb⟩:=info_parts find64;have HI:=Hd hi0;have HZ:=Hd hz0;have HZS:=Hd hzs;have HZB:=Hd hzb;clear hi0 hz0 hzs hzb;have HNE:Hid (∀j v,(xs.flatMap Ev.cells)[j]? =some v→w6.cell? ((⟨g,0,none⟩:Addr).add j)=some v):=Hd fun j v hj=>by rw [Addr.add_mid,Nat.zero_add];exact (own_cell HL6.out.own).2 j v hj
    have HON:Hid (∀u∈xs.flatMap Ev.cells,u.oneCell'=true):=Hd fun u hu=>by
     obtain ⟨x,_,hx⟩:=List.mem_flatMap.1 hu;exact ev_one1 x u hx
    have HLN:Hid ((xs.flatMap Ev.cells).length=xs.length*9):=Hd HL6.out.own.1;have h60:=HL60.out;go_upto_region 12 with (at_builtin;refine wpList_append_lies _ rfl _ _ _ rfl w6.heap.size 64 i0 (.agg #[I,I,I,I,I,I,I,I,J]) 9 80 Tryz.underlying48 HI.out HZ.out HZS.out HZB.out rfl b10 (.slice none 0 0) 0 [] rfl (World.ownsRow_nil _ _ 64 9) ⟨g,0,none⟩ xs.length lc (xs.flatMap Ev.cells) rfl HLN.out HNE.out HON.out b10 b17 b10 Nr w6.heap.size rfl ?_;intro gb cb w7 hown hgrow hat hlt7;rw [Nat.zero_add,List.nil_append] at hown;have HOW:=Hd hown;have HB7:=Hd ((Below.refl w6 w6).grown hgrow Nr (fun q hq=>by cases hq));clear hown hgrow hat hlt7)
    have HL7:=Hd (HL6.out.below HB7.out);have HE7:=Hd (HE.out.below HB7.out HE.out.hi);have HB57:=Hd (HB56.out.trans (HB7.out.mono HB56.out.size));obtain ⟨gs,os,g2,o2,n2,c2,rfl,⟨s1,s2⟩,y1,⟨n1,n3,n4⟩,y2⟩:=HSC.out _ HL7.out;have c19:=HL7.out.cf.cell 19 _ HCF.out;have f1:=HE7.out.cell 1 (.int .i64 (p:Int)) (by rw [←HPI.out];rfl);have f2:=HE7.out.cell 2 (.int .i64 (ix:Int)) (by rw [←HIX.out];rfl);clear HI HZ HZS HZB HNE HON HLN HSC e1;go_wp2_with fail;go_quiet (fail);go_upto_region 13 with (fail)
    have HBd:=Hd (below_drewN (Below.refl w7 w7) nq);generalize w7.drewN nq=w8 at *;have HE8:=Hd (HE7.out.below HBd.out HE7.out.hi);have HO8:=Hd (Des.ownsRow_below HOW.out HBd.out);have HB8:=Hd (HB7.out.trans (HBd.out.mono HB7.out.size));clear HL7 HE7 HOW HB57 HBd c19 f1 f2 y1 y2 HB7;go_cut [57] from 58 to 70 (fun s57 wx=>s57=.bool (decide ((kd=3∨kd=11)∧0<X.dat.size))∧Hid (wx.ownsRow w6.heap.size 64 9 (.slice (some (gb 0)) xs.length cb) xs.length (xs.flatMap Ev.cells))∧Hid (Below w6 w6 wx))
    case first=>
     have e8:=HE8.out.cell 8 (.string X.dat) rfl;by_cases q1:kd=3∨kd=11
     ·by_cases q2:0<X.dat.size
      ·have q2I:0<(X.dat.size:Int):=b10;have q3:decide ((kd=3∨kd=11)∧0<X.dat.size)=true:=decide_eq_true ⟨q1,q2⟩;exact cl84
      ·have q2I:¬0<(X.dat.size:Int):=b10;have q3:decide ((kd=3∨kd=11)∧0<X.dat.size)=false:=decide_eq_false (fun e=>q2 e.2);exact cl84
     ·have q3:decide ((kd=3∨kd=11)∧0<X.dat.size)=false:=decide_eq_false (fun e=>q1 e.1);have HQ3:=Hd q3;have q4:(kd==3)=false:=by simp;omega
      have q5:(kd==11)=false:=by simp;omega
      clear q1 q3;go_wp2_with fail;go_meet;exact ⟨by rw [HQ3.out],HO8,HB8⟩
    case rest=>
    clear HE8 HO8 HB8;obtain ⟨rfl,HO8,HB8⟩:=hcut;have HE8:=Hd (HE.out.below HB8.out HE.out.hi);rename_i K0 h0;refine h0 _ _ ?_;clear h0 K0;by_cases qA:(kd=3∨kd=11)∧0<X.dat.size
    ·rw [decide_eq_true qA];obtain ⟨qk,qd⟩:=qA;have HQK:=Hd qk;have qdI:0<(X.dat.size:Int):=b10;have e8:=HE8.out.cell 8 (.string X.dat) rfl;have HCX:=Hd (fun d (hd:d≠X.dat)=>HCR.out d HPN.out qk qd hd);clear qk HCR HCY;have hconv:=fun w=>conv_row w X.dat;go_upto_region 15 with (fail)
     obtain ⟨hbc, hcc⟩ := conv_cells2 wc X.dat (grownCap wc X.dat.size 0 5) ((bytesRow X.dat (grownCap wc X.dat.size 0 5)).size, (bytesRow X.dat (grownCap wc X.dat.size 0 5)).size + 1) (by
      have h:X.dat.data.size=X.dat.size:=rfl;simp only [bytesRow,Array.size_append,Array.size_map,Array.size_replicate];omega)
     have hge := grownCap_ge wc X.dat.size 0 5; generalize grownCap wc X.dat.size 0 5 = C at *; generalize (World.alloc wc (Obj.cells (bytesRow X.dat C) 5 ((bytesRow X.dat C).size, (bytesRow X.dat C).size + 1))).drew = w9 at *; have HBC := Hd hbc; have HCC := Hd hcc; have HBB : Hid (wc.heap.size < w9.heap.size) := Hd (by
      rcases Nat.lt_or_ge wc.heap.size w9.heap.size with h|h
      ·exact h
      ·have h1:=(hcc 0 qd).1;simp [World.cell?,Array.getElem?_eq_none h] at h1)
     obtain ⟨c0,f0⟩:=hcc 0 qd;have hbb:=HBB.out;have hgeI:(X.dat.size:Int)≤(C:Int):=b10;clear hbc hcc hconv e8;have hu8:=(X.dat.data.toList.getD 0 0).toNat_lt;generalize hb0:((X.dat.data.toList.getD 0 0).toNat:Int)=b0 at *;have HB0:=Hd hb0;clear hb0;have hu8I:0≤b0∧b0<256:=by have:=HB0.out;omega
     clear hu8;go_upto_region 16 with (fail)
     obtain ⟨d,hd1,hd2,hcv⟩:=bump_bytes (w:=w9) (g:=wc.heap.size) (cap:=C) qd (fun j hj=>(HCC.out j hj).1) (z:=(b0+1)%256) (by rw [HB0.out]);have HB10:=Hd (HBC.out.setCell (p:=(wc 0 0)) Nr (.int .u8 ((b0+1)%256)));generalize World.setCell w9 ⟨wc.heap.size,0,none⟩ (.int .u8 ((b0+1)%256))=w10 at *;have HO10:=Hd (Des.ownsRow_below HO8.out HB10.out);have HB610:=Hd (HB8.out.trans (HB10.out.mono HB8.out.size));obtain ⟨y8,f8⟩:=ev_cell HO10.out hlt 8 (.string X.dat) (by rw [HX.out];rfl);obtain ⟨g8,hgb,hb1,hb2⟩:=(own_cell HO10.out).1;have hb1I:(xs.length:Int)≤(cb:Int):=b10;unfold maxLen at hb2;have HO11:Hid ((w10.setCell (gb (i*9+8)) (.string d)).ownsRow w6.heap.size 64 9 (.slice (some (gb 0)) xs.length cb) (xs.set i {X with dat:=d}).length ((xs.set i {X with dat:=d}).flatMap Ev.cells)):=Hd (ev_set HO10.out hlt 8 (.string d) {X with dat:=d} b10 (by rw [HX.out];rfl));have HB11:=Hd (HB610.out.setCell (p:=(gb (i*9+8))) hgb (.string d));have HD1:=Hd hd1;clear HBC HCC HBB c0 f0 hbb HB0 hu8I HB10 HO10 HB610 HO8 HB8 HE8 hd1;go_upto_region 19 with (fail)
     generalize World.setCell w10 ⟨gb,i*9+8,none⟩ (.string d)=w11 at *;have HL11:=Hd (HL6.out.below HB11.out);have HB511:=Hd (HB56.out.trans (HB11.out.mono HB56.out.size));have HCALL:=Hd (HCK.out B xs _ _ _ w11 HL11.out (EvRow.ofOwn HO11.out) (by rw [List.length_set];exact HL60.out) (HKY.out d 0).1);clear HO11;go_wp2_with (with_reducible refine Des.hold_load 44 rfl ?_)
     refine Des.load_ato 0 HL11.out.cf.r Tryz.underlying44 rfl hsz44 rfl rfl rfl ?_;go_wp2_with fail;refine HCALL.out.mono ?_;rintro e w12 ⟨Bf,ov,rfl,_,hown,hb⟩;rw [HCX.out d HD1.out] at hown;obtain ⟨gf,cfn,rfl,_,hgf⟩:=hown.form b11;obtain ⟨⟨-,-,hcf1,hcf2⟩,hfc⟩:=own_cell hown;have v0:=hfc 0 (.int .i64 (i:Int)) rfl;have v1:=hfc 1 (.int .i64 1) rfl;exact cl58
    ·rw [decide_eq_false qA];have e6:=HE8.out.cell 6 (.int .i64 X.er) rfl;have HB58:=Hd (HB56.out.trans (HB8.out.mono HB56.out.size));clear qA HCR;by_cases k8:kd=8
     ·by_cases e10:X.er=10
      ·have HC8:=Hd (HCY.out HPN.out k8 e10);rw [e10] at e6;clear HCY;subst k8;obtain ⟨y8,f8⟩:=ev_cell HO8.out hlt 6 (.int .i64 X.er) (by rw [HX.out];rfl);obtain ⟨g8,hgb,hb1,hb2⟩:=(own_cell HO8.out).1;have hb1I:(xs.length:Int)≤(cb:Int):=b10;unfold maxLen at hb2;have HO11:Hid ((wc.setCell (gb (i*9+6)) I).ownsRow w6.heap.size 64 9 (.slice (some (gb 0)) xs.length cb) (xs.set i {X with er:=0}).length ((xs.set i {X with er:=0}).flatMap Ev.cells)):=Hd (ev_set HO8.out hlt 6 (.int .i64 0) {X with er:=0} b10 (by rw [HX.out];rfl));have HB11:=Hd (HB8.out.setCell (p:=(gb (i*9+6))) hgb (.int .i64 0));clear HO8 HB8 HE8 e10;go_upto_region 19 with (fail)
       generalize World.setCell wc ⟨gb,i*9+6,none⟩ (.int .i64 0)=w11 at *;have HL11:=Hd (HL6.out.below HB11.out);have HB511:=Hd (HB56.out.trans (HB11.out.mono HB56.out.size));have HCALL:=Hd (HCK.out B xs _ _ _ w11 HL11.out (EvRow.ofOwn HO11.out) (by rw [List.length_set];exact HL60.out) (HKY.out ⟨#[]⟩ 0).2);clear HO11;go_wp2_with (with_reducible refine Des.hold_load 44 rfl ?_)
       refine Des.load_ato 0 HL11.out.cf.r Tryz.underlying44 rfl hsz44 rfl rfl rfl ?_;go_wp2_with fail;refine HCALL.out.mono ?_;rintro e w12 ⟨Bf,ov,rfl,_,hown,hb⟩;rw [HC8.out] at hown;obtain ⟨gf,cfn,rfl,_,hgf⟩:=hown.form b11;obtain ⟨⟨_,_,hcf1,hcf2⟩,hfc⟩:=own_cell hown;have v0:=hfc 0 (.int .i64 (i:Int)) rfl;have v1:=hfc 1 (.int .i64 3) rfl;exact cl58
      ·have q:(X.er==10)=false:=by simpa using e10
       subst k8;clear e10;exact cl98
     ·have q:(kd==8)=false:=by simpa using k8
      clear k8;exact cl98
  ·obtain rfl:i=xs.length:=b10;go_wp2_with fail;refine (awake_any _).mono ?_;rintro e w9 ⟨rfl,hb⟩;have HXX:Hid (Below W W w9):=Hd (HL.out.bw.trans ((HB.out.trans (hb.mono HB.out.size)).mono HL.out.bw.size));clear hb;go_wp2_with fail;go_ret;exact RetW.mk rfl HXX.out):p:=h
theorem km90 {p : Prop} (h:p:=by
 clear HPF HOPS HNS HHIx HOKR;exact cm66):p:=h
end Ayaf
open Ayaf in
set_option maxHeartbeats 64000000 in
theorem catches_walk (a0:Option Addr) (len0 cap0:Nat) (a1:Option Addr) (len1 cap1:Nat) (W:World) (h0:ArgRow W a0 len0) (l0:len0≤maxLen) (h1:ArgRow W a1 len1) (l1:len1≤maxLen):
 Calls Tryz.prog 4 #[.slice a0 len0 cap0,.slice a1 len1 cap1] W (RetW (.bool true) W):=by
 have HT:=Hd (tape_at W a0 len0 cap0 h0 l0);have HA1:=Hd h1;have HL1:=Hd l1;clear h0 l0 h1 l1;go_enter Tryz.func4,Tryz.ntmps4;exact cm2
end Go.Proofs.YtimhaidiclbnhaaGreat.Ver
