import Derived.Test.YtimhaidiclbnhaaGreatP12
import Derived.Test.YtimhaidiclbnhaaGreatP13
set_option linter.unusedSimpArgs false
set_option linter.unusedVariables false
set_option maxRecDepth 100000
open Go.ChangeShapes Go.WideShapes Go.ChangeAt Go.RowKit
namespace Go.Proofs.YtimhaidiclbnhaaGreat.Des
theorem rf_none {d:De} (h:checkV d=true) (i:Nat) (hi:i<d.o.length):(d.o.getD i Dn.zero).rf=0↔noneB (d.o.getD i Dn.zero)=true:=by
 unfold checkV at h;rw [Bool.and_eq_true,Bool.and_eq_true] at h;have h1:=List.all_eq_true.1 h.2 i (List.mem_range.2 hi);unfold itemB at h1;rw [Bool.and_eq_true] at h1;have h2:=of_decide_eq_true h1.1;unfold noneB;constructor
 ·intro h0;rw [←h2,if_pos h0,Bool.and_eq_true] at h1;exact h1.2.1
 ·intro h0;rw [of_decide_eq_true h0];rfl
theorem slot_at {o:List Dn} {a:Nat} (h1:∀j,j<a→noneB (o.getD j Dn.zero)=false) (h2:a=o.length∨(a<o.length∧noneB (o.getD a Dn.zero)=true)):slotN o=a∧(a=o.length→fst noneB o=-1)∧(a<o.length→fst noneB o=a):=by
 rcases h2 with h2|⟨h2,h3⟩
 ·have e:fst noneB o=-1:=fst_miss (d:=Dn.zero) (by rw [←h2];exact h1);refine ⟨?_,fun _=>e,fun h=>by omega⟩;unfold slotN;rw [e,if_pos b14,h2]
 ·have e:fst noneB o=a:=fst_hit (d:=Dn.zero) h2 h1 h3;refine ⟨?_,fun h=>by omega,fun _=>e⟩;unfold slotN;rw [e,if_neg b10,Int.toNat_natCast]
namespace Asiv
theorem km3 {p : Prop} (h:p:=by
 exact cm72):p:=h
theorem km33 {p : Prop} (h:p:=by
 exact cm57):p:=h
theorem km57 {p : Prop} (h:p:=by
 have HTB:Hid (checkV x.pl=true→0≤p→p<(x.t.length:Int)→tabAt x.pl p=(x.t.getD p.toNat Tb.nil).l∧(tabAt x.pl p).length=16∧x.o.length≤128):=fun h1 h2 h3=>by
  have h4:=check_tab h1 p.toNat b66;exact ⟨map_getD x.t p.toNat b10,h4.1,(check_len h1).2.2⟩
 have HRZ:Hid (checkV x.pl=true→∀i,i<x.o.length→((x.o.getD i Dn.zero).rf=0↔noneB (x.o.getD i Dn.zero)=true)):=fun h1 i hi=>rf_none h1 i hi;have HPV:Hid (procV x.pl p=if checkV x.pl=false then 1 else if p<0∨(x.t.length:Int)≤p then 2 else 0):=by unfold procV;rw [pl_t];rfl
 have HCK:Hid (∀W,Below w w W→Calls Tryz.prog 47 #[.agg #[.slice x.oa x.o.length x.oc,.slice x.ta x.t.length x.tc]] W (RetW (.bool (checkV x.pl)) W)):=fun W hb=>checkR_any' x W (h.below hb) hz.o hz.t;have HRD:Hid (∀W,Calls Tryz.prog 48 #[.agg #[fi,fl,I,c,(1:Int)]] W (RetW (.bool (fixB fi fl&&curB c)) W)):=fun W=>by
  have e:rightD ⟨fi,fl,0,c,1⟩=(fixB fi fl&&curB c):=by
   unfold rightD movB;simp
  rw [←e];exact right_doc ⟨fi,fl,0,c,1⟩ W
 exact cm95):p:=h
theorem km72 {p : Prop} (h:p:=by
 generalize checkV x.pl=cv at *;unfold dVal;obtain ⟨w1,hw1⟩:∃w1,w1=W0.alloc (Obj.cells #[fi,fl,I,c,(1:Int)] 126):=⟨_,rfl⟩
 have hb1:Below W0 W0 w1:=by rw [hw1];exact Br.alloc Nr _
 have hx1:DCel w1 (w.heap.size+2) 0 ⟨fi,fl,0,c,1⟩:=by rw [hw1,←HS0.out];exact DCel.new W0 ⟨fi,fl,0,c,1⟩
 have HXC:Hid (∀W,Below w1 w1 W→DCel W (w.heap.size+2) 0 ⟨fi,fl,0,c,1⟩):=fun W hb=>hx1.below hb (by rw [hw1,alloc_size,HS0.out];omega);have HR2:=Hd (HR0.out.below hb1 HR0.out.hi);have HB2:=Hd (HB0.out.trans (hb1.mono HB0.out.size));have k0:=(hb1.cell (p:=(w 0 0)) (World.block_lt_of_cell? _ _ hp0)).trans hp0;have k1:=(hb1.cell (p:=(w 0 1)) (World.block_lt_of_cell? _ _ hp1)).trans hp1;have hl2:w.heap.size+3≤w1.heap.size:=by rw [hw1,alloc_size,HS0.out];omega
 obtain ⟨s0,s1,s2,s3,s4⟩:=hx1;simp only [Nat.zero_add] at s0 s1 s2 s3 s4;have HH1:Hid (Below w1 w1 w1):=Below.refl _ _;clear hb1 hp0 hp1 HB0 HS0 HR0 HP0 HP1;go_enter Tryz.func32,Tryz.ntmps32;go_upto_region 2 with (fail)
 rw [←hW0];rw [←hw1];clear hW0 hw1;go_wp2_with fail;refine (HCK.out w1 HB2.out).mono ?_;rintro e w2 ⟨rfl,hb⟩;replace HR2:=Hd (HR2.out.below hb HR2.out.hi);replace HB2:=Hd (HB2.out.trans (hb.mono HB2.out.size));replace k0:=(hb.cell (p:=(w 0 0)) (World.block_lt_of_cell? _ _ k0)).trans k0;replace k1:=(hb.cell (p:=(w 0 1)) (World.block_lt_of_cell? _ _ k1)).trans k1;replace hl2:=Nat.le_trans hl2 hb.size;replace HH1:=Hd (HH1.out.trans (hb.mono HH1.out.size));clear hb HCK s0 s1 s2 s3 s4;cases cv with
 |false=>
  have hpv:Hid (pv=1):=HPV.out;have HOE2:Hid (oe=1):=by have:=HOE.out;rw [if_pos (by rw [hpv.out];decide),hpv.out] at this;exact this
  exact cm77
 |true=>
  by_cases hp:p<0∨(x.t.length:Int)≤p
  ·have hpv:Hid (pv=2):=by have:=HPV.out;rw [if_neg b11,if_pos hp] at this;exact this
   have HOE2:Hid (oe=2):=by have:=HOE.out;rw [if_pos (by rw [hpv.out];decide),hpv.out] at this;exact this
   have HOF2:Hid (of=0):=by have:=HOF.out;rw [if_neg b21] at this;exact this
   have HOD2:Hid (od=x.pl):=by have:=HOD.out;rw [if_neg b21] at this;exact this
   have HNEG:=Hd hp;clear hp;obtain ⟨r0,r1,r2,r3,r4⟩:=HR2.out.two;obtain ⟨hA5,hD5,hB5⟩:=ret_in HX.out HR2.out HB2.out (Nat.lt_succ_self _);have e0:=hA5.cell 0 _ rfl;have e1:=hA5.cell 1 _ rfl;have hpo:=HP.out x _ b36 hD5 hB5;rw [HOE2.out,HOF2.out] at hpo;have HPo:=Hd hpo;clear hA5 hD5 hB5 hpo;go_wp2_with fail
   all_goals first|(exfalso;have:=HNEG.out;omega)|(generalize ((w2.setCell (w 1 0) (.slice x.oa x.o.length x.oc)).setCell (w 1 1) (.slice x.ta x.t.length x.tc))=w9 at *;exact bodyPost_ret (v:=.tuple #[.agg #[.slice x.oa x.o.length x.oc,.slice x.ta x.t.length x.tc],I,(2:Int)]) b56 rfl HPo.out)
  ·have hpv:pv=0:=by have:=HPV.out;rw [if_neg b11,if_neg hp] at this;exact this
   subst hpv;rw [if_neg b11] at HOE;obtain ⟨k,rfl⟩:∃k:Nat,p=(k:Int):=⟨p.toNat,by omega⟩
   have q1:(k:Int)<(x.t.length:Int):=b10;obtain ⟨q2,q3,q4⟩:=HTB.out b55 b10 q1;rw [Int.toNat_natCast] at q2;have Q2:=Hd q2;have Q3:=Hd q3;have HRF:=Hd (HRZ.out b55);clear q2 q3 hp HPV HTB HRZ;obtain ⟨s0,s1,s2,s3,s4⟩:=HXC.out _ HH1.out;simp only [Nat.zero_add] at s0 s1 s2 s3 s4;go_wp2_with fail;refine (HRD.out w2).mono ?_;rintro e w3 ⟨rfl,hb⟩;replace HR2:=Hd (HR2.out.below hb HR2.out.hi);replace HB2:=Hd (HB2.out.trans (hb.mono HB2.out.size));replace k0:=(hb.cell (p:=(w 0 0)) (World.block_lt_of_cell? _ _ k0)).trans k0;replace k1:=(hb.cell (p:=(w 0 1)) (World.block_lt_of_cell? _ _ k1)).trans k1;replace hl2:=Nat.le_trans hl2 hb.size;replace HH1:=Hd (HH1.out.trans (hb.mono HH1.out.size));clear hb HRD s0 s1 s2 s3 s4;generalize (fixB fi fl&&curB c)=rb at *;cases rb with
   |false=>
    have HOE2:Hid (oe=2):=by have:=HOE.out;rw [if_pos rfl] at this;exact this
    have HOF2:Hid (of=0):=by have:=HOF.out;rw [if_neg b21] at this;exact this
    have HOD2:Hid (od=x.pl):=by have:=HOD.out;rw [if_neg b21] at this;exact this
    have HNEG:Hid ((0:Int)≤0):=Int.le_refl _;obtain ⟨r0,r1,r2,r3,r4⟩:=HR2.out.two;obtain ⟨hA5,hD5,hB5⟩:=ret_in HX.out HR2.out HB2.out (Nat.lt_succ_self _);have e0:=hA5.cell 0 _ rfl;have e1:=hA5.cell 1 _ rfl;have hpo:=HP.out x _ b36 hD5 hB5;rw [HOE2.out,HOF2.out] at hpo;have HPo:=Hd hpo;clear hA5 hD5 hB5 hpo;go_wp2_with fail
    all_goals first|(exfalso;have:=HNEG.out;omega)|(generalize ((w3.setCell (w 1 0) (.slice x.oa x.o.length x.oc)).setCell (w 1 1) (.slice x.ta x.t.length x.tc))=w9 at *;exact bodyPost_ret (v:=.tuple #[.agg #[.slice x.oa x.o.length x.oc,.slice x.ta x.t.length x.tc],I,(2:Int)]) b56 rfl HPo.out)
   |true=>
    rw [if_neg b11] at HOE;go_wp2_with fail;have hfe:=HFE.out w3 k HB2.out b10 (by rw [←Q2.out];exact Q3.out);rw [←Q2.out] at hfe;refine hfe.mono ?_;clear hfe HFE;rintro e w4 ⟨rfl,hb⟩;exact cm112):p:=h
theorem km77 {p : Prop} (h:p:=by
 have HNEG:Hid ((0:Int)≤0):=Int.le_refl _;exact cm98):p:=h
theorem km95 {p : Prop} (h:p:=by
 have hol:=hz.o;exact cm3):p:=h
theorem km97 {p : Prop} (h:p:=by
 have HF9:=Hd (HF8.out.turn ((Below.refl (w.heap.size+3) w8).setCell (p:=(g5 j)) c10 (.int .i64 ((a:Int)+1))) (HF8.out.wk.putT k hkt c4 j ((a:Int)+1)));obtain ⟨hA5,hD5,hB5⟩:=HF9.out.fin;simp only [tset_len,List.length_set,List.length_append,List.length_singleton,c1,hOA] at hA5 hD5 hB5;exact cm114):p:=h
theorem km98 {p : Prop} (h:p:=by
 rw [HOE2.out,HOF2.out] at hpo;have HPo:=Hd hpo;clear hA5 hD5 hB5 hpo;go_wp2_with fail
 all_goals first|(exfalso;have:=HNEG.out;omega)|(generalize ((w2.setCell (w 1 0) (.slice x.oa x.o.length x.oc)).setCell (w 1 1) (.slice x.ta x.t.length x.tc))=w9 at *;exact bodyPost_ret (v:=.tuple #[.agg #[.slice x.oa x.o.length x.oc,.slice x.ta x.t.length x.tc],I,(1:Int)]) b56 rfl HPo.out)):p:=h
theorem km112 {p : Prop} (h:p:=by
 replace HH1:=Hd (HH1.out.trans (hb.mono HH1.out.size));clear hb;rcases fst_cases zeroB T 0 with ⟨hf,_⟩|⟨j,hf,hj,_,_⟩
 ·rw [hf] at HOE HOF HOD ⊢;have HOE2:Hid (oe=3):=by have:=HOE.out;rw [if_pos b14] at this;exact this
  have HOF2:Hid (of=0):=by have:=HOF.out;rw [if_neg b21] at this;exact this
  have HOD2:Hid (od=x.pl):=by have:=HOD.out;rw [if_neg b21] at this;exact this
  have HNEG:Hid ((0:Int)≤0):=Int.le_refl _;obtain ⟨r0,r1,r2,r3,r4⟩:=HR2.out.two;obtain ⟨hA5,hD5,hB5⟩:=ret_in HX.out HR2.out HB2.out (Nat.lt_succ_self _);have e0:=hA5.cell 0 _ rfl;have e1:=hA5.cell 1 _ rfl;have hpo:=HP.out x _ b36 hD5 hB5;rw [HOE2.out,HOF2.out] at hpo;have HPo:=Hd hpo;clear hA5 hD5 hB5 hpo;go_wp2_with fail
  all_goals first|(exfalso;have:=HNEG.out;omega)|(generalize ((w4.setCell (w 1 0) (.slice x.oa x.o.length x.oc)).setCell (w 1 1) (.slice x.ta x.t.length x.tc))=w9 at *;exact bodyPost_ret (v:=.tuple #[.agg #[.slice x.oa x.o.length x.oc,.slice x.ta x.t.length x.tc],I,(3:Int)]) b56 rfl HPo.out)
 ·exact cm136):p:=h
theorem km114 {p : Prop} (h:p:=by
 simp only [List.length_set,List.length_append,List.length_singleton,c1,hOA] at x0 x1;have hNb:(a:Int)≤20000:=b10;clear hA5 hD5 hB5 hpo c8 c9 hyT q3 c4 c1 hOA HF8;go_wp2_with fail;generalize ((w8.setCell (g5 j) (.int .i64 ((a:Int)+1))).setCell (w 1 0) (.slice (some (g3 0)) y.o.length y.oc)).setCell (w 1 1) (.slice (some (g4 0)) y.t.length y.tc)=w9 at *;exact bodyPost_ret (v:=.tuple #[.agg #[.slice (some (g3 0)) y.o.length y.oc,.slice (some (g4 0)) y.t.length y.tc],j,I]) b56 rfl HPo.out):p:=h
theorem km129 {p : Prop} (h:p:=by
 have nR:w.heap.size+1≠g5:=b10;have HF9:=Hd (HF8.out.turn ((Below.refl (w.heap.size+3) wA).setCell (p:=(g5 j)) c10 (.int .i64 ((y.o.length:Int)+1))) (HF8.out.wk.putT k hkt c4 j ((y.o.length:Int)+1)));obtain ⟨hA5,hD5,hB5⟩:=HF9.out.fin;simp only [tset_len,List.length_set,List.length_append,List.length_singleton,c1] at hA5 hD5 hB5;have e0:=hA5.cell 0 _ rfl;have e1:=hA5.cell 1 _ rfl;have hpo:=HP.out _ _ b65 hD5 hB5;rw [HOE2.out,HOF2.out] at hpo;simp only [tset_len,List.length_set,List.length_append,List.length_singleton] at hpo;have HPo:=Hd hpo;obtain ⟨r0,r1,r2,r3,r4⟩:=HF8.out.r.two;obtain ⟨x0,x1,x2,x3,x4⟩:=HF8.out.wk.box.cc;simp only [List.length_set,List.length_append,List.length_singleton,c1] at x0 x1;have hNb:(y.o.length:Int)≤20000:=b10;clear hA5 hD5 hB5 hpo c8 c9 hyT q3 c4 c1 hOA HF8;go_wp2_with fail;generalize ((wA.setCell (g5 j) (.int .i64 ((y.o.length:Int)+1))).setCell (w 1 0) (.slice aN (y.o.length+1) cN)).setCell (w 1 1) (.slice (some (g4 0)) y.t.length y.tc)=w9 at *;exact bodyPost_ret (v:=.tuple #[.agg #[.slice aN (y.o.length+1) cN,.slice (some (g4 0)) y.t.length y.tc],j,I]) b56 rfl HPo.out):p:=h
theorem km136 {p : Prop} (h:p:=by
 rw [if_pos HOE2.out,Int.toNat_natCast,Int.toNat_natCast] at hod2;have hj16:(j:Int)<16:=by have:=Q3.out;omega
 clear HOE HOF HOD;go_wp2_with fail;refine (HC.out w4 HB2.out).mono ?_;rintro e w5 ⟨y,rfl,hpl,hown,hb⟩;have HFR:Hid (Fr w x (w5.alloc (Obj.cells #[.slice y.oa y.o.length y.oc,.slice y.ta y.t.length y.tc] 83)) (w.heap.size+3) (w.heap.size+1) w5.heap.size y):=Fr.start k0 k1 HR2.out HB2.out b10 (Nat.lt_succ_self _) hl2 hown hb;have HPL:=Hd hpl;replace HH1:=Hd ((HH1.out.trans (hb.mono HH1.out.size)).trans (((Below.refl w5 w5).alloc Nr (Obj.cells #[.slice y.oa y.o.length y.oc,.slice y.ta y.t.length y.tc] 83)).mono (Nat.le_trans HH1.out.size hb.size)));obtain ⟨w6,hw6⟩:∃w6,w6=w5.alloc (Obj.cells #[.slice y.oa y.o.length y.oc,.slice y.ta y.t.length y.tc] 83):=⟨_,rfl⟩
 obtain ⟨O,hO⟩:∃O,O=w5.heap.size:=⟨_,rfl⟩
 rw [←hw6] at HFR HH1;rw [←hO] at HFR;clear hpl hown hb HC k0 k1 HR2 HB2;have hyt:y.t.length=x.t.length:=by have:=congrArg (fun d=>d.t.length) HPL.out;simpa [Dv.pl] using this
 have hyo:y.o=x.o:=congrArg De.o HPL.out;have HPT:Hid (y.t.map Tb.l=x.pl.t):=congrArg De.t HPL.out;have hyT:(y.t.getD k Tb.nil).l=T:=by rw [←map_getD y.t k b10,HPT.out,Q2.out];exact map_getD x.t k b10
 have HYTT:=Hd hyT;have hkt:k<y.t.length:=b10;have q1y:(k:Int)<(y.t.length:Int):=b10;rw [←hyo] at hod2 HRF q4;clear hyt hyo hyT;go_upto_region 10 with (fail)
 rw [←hw6,←hO];clear hw6 hO;obtain ⟨x0,x1,x2,x3,x4⟩:=HFR.out.wk.box.cc;have hol4:(y.o.length:Int)≤128:=b10;go_wp2_with fail;go_loopw [16,17] (fun v16 v17 wr=>∃(i a:Nat),i≤y.o.length∧v17=.int .i64 ((i:Int)-1)∧v16=.int .i64 (a:Int)∧Hid ((∀j,i≤j→j<a→noneB (y.o.getD j Dn.zero)=false)∧(a=y.o.length∨(i≤a∧a<y.o.length∧noneB (y.o.getD a Dn.zero)=true)))∧wr=w6) (fun _ v17 _=>(intOf v17+1).toNat)
 case atStart=>exact ⟨y.o.length,y.o.length,Nat.le_refl _,rfl,rfl,⟨fun j h1 h2=>by omega,Or.inl rfl⟩,rfl⟩
 case round=>
  obtain ⟨i,a,hi,rfl,rfl,HI,rfl⟩:=hrel;by_cases hi0:0<i
  ·obtain ⟨i',rfl⟩:∃i',i=i'+1:=⟨i-1,by omega⟩
   have hi':i'<y.o.length:=b10;obtain ⟨g3,b1,b2,b3,b4,b5,b6,b7⟩:=HFR.out.wk.own.descAt i' hi';have k4:=b4.c4;have hrf:=HRF.out i' hi';have HN0:Hid ((y.o.getD i' Dn.zero).rf≠0→(∀j,i'≤j→j<a→noneB (y.o.getD j Dn.zero)=false)∧(a=y.o.length∨(i'≤a∧a<y.o.length∧noneB (y.o.getD a Dn.zero)=true))):=fun hh=>by
    refine ⟨fun j h1 h2=>?_,HI.out.2.imp id (fun h=>⟨by omega,h.2⟩)⟩;by_cases e:j=i'
    ·rw [e];cases hb:noneB (y.o.getD i' Dn.zero)
     ·rfl
     ·exact absurd (hrf.2 hb) hh
    ·exact HI.out.1 j b10 h2
   have HN1:Hid ((y.o.getD i' Dn.zero).rf=0→(∀j,i'≤j→j<i'→noneB (y.o.getD j Dn.zero)=false)∧(i'=y.o.length∨(i'≤i'∧i'<y.o.length∧noneB (y.o.getD i' Dn.zero)=true))):=fun hh=>⟨fun j h1 h2=>by omega,Or.inr ⟨Nat.le_refl _,hi',hrf.1 hh⟩⟩
   rw [b1] at x0;have hcast:((i'+1:Nat):Int)-1=(i':Int):=b10;rw [hcast];have h0i:(0:Int)≤(i':Int):=b10;have hii:(i':Int)<(y.o.length:Int):=b10;clear b4 b5 hrf hcast;generalize (y.o.getD i' Dn.zero).rf=rf at *;by_cases hr0:rf=0
   ·subst hr0;have HV:=Hd (HN1.out rfl);go_wp2_with fail;go_roundw
    case rel=>exact ⟨i',i',by omega,by go_num,rfl,HV,trivial⟩
    case measure=>first|(simp [intOf];done)|(simp [intOf];omega)
   ·have HV:=Hd (HN0.out hr0);have hr1:(rf==0)=false:=by simpa using hr0
    go_wp2_with fail;go_roundw
    case rel=>exact ⟨i',a,by omega,by go_num,rfl,HV,trivial⟩
    case measure=>first|(simp [intOf];done)|(simp [intOf];omega)
  ·obtain rfl:i=0:=b10;have hsl:=slot_at (o:=y.o) (a:=a) (fun j hj=>HI.out.1 j (Nat.zero_le _) hj) (HI.out.2.imp id (fun h=>h.2));have HSL:=Hd hsl;have ha:a≤y.o.length:=by rcases HI.out.2 with h|h<;>omega
   clear hsl HI HRF;by_cases hal:a<y.o.length
   ·have hod3:=hod2;unfold putD at hod3;rw [HSL.out.1,HSL.out.2.2 hal,if_neg b10,Int.toNat_natCast] at hod3;have HOD2:=Hd hod3;obtain ⟨g3,b1,b2,b3,b4,b5,b6,b7⟩:=HFR.out.wk.own.descAt a hal;have hth:=there5 b4 b5;have hOA:y.oa=some ⟨g3,0,none⟩:=b1;have ham:(a:Int)<(y.o.length:Int):=b10;have ham0:(0:Int)≤(a:Int):=b10;obtain ⟨s0,s1,s2,s3,s4⟩:=HXC.out _ HH1.out;simp only [Nat.zero_add] at s0 s1 s2 s3 s4;rw [b1] at x0;clear hod2 hod3 HSL;go_wp2_with (with_reducible refine hold_store 126 rfl ?_)
    clear x0 x1 x2 x3 x4 s0 s1 s2 s3 s4;refine store_ato (a*5) (Dn.cells ⟨fi,fl,0,c,1⟩) hth rfl size34 (by simp [Dn.cells,Value.oneCell']) rfl rfl rfl rfl ?_;have hwk8:=HFR.out.wk.putO b1 a hal ⟨fi,fl,0,c,1⟩;intro w8 hw8;rw [←hw8] at hwk8;have hbel8:Below (w.heap.size+3) wr w8:=by rw [hw8];exact below_cells b6 _ _ Br
    have HF8:=Hd (HFR.out.turn hbel8 hwk8);clear hw8 hwk8 hbel8 b1 b2 b3 b4 b5 b6 b7 HFR;exact cm97
   ·obtain rfl:a=y.o.length:=b10;have hod3:=hod2;unfold putD at hod3;rw [HSL.out.1,HSL.out.2.1 rfl,if_pos b14] at hod3;have HOD2:=Hd hod3;clear hod2 hod3 HSL;obtain ⟨W4,hW4⟩:∃W4,W4=wr.alloc (Obj.cells #[fi,fl,I,c,(1:Int)] 126):=⟨_,rfl⟩
    have hb4:Below wr wr W4:=by rw [hW4];exact Br.alloc Nr _
    have hv4:W4.rangeAt wr.heap.size 0 (Dn.cells ⟨fi,fl,0,c,1⟩):=by rw [hW4];exact (At.new wr (Dn.cells ⟨fi,fl,0,c,1⟩) 126).r
    have HF4:=HFR.out.below hb4;have hle4:w.heap.size+3≤W4.heap.size:=by have:=HF4.wk.lo;have:=HF4.wk.box.at'.hi;omega
    obtain ⟨aN,cN,wN,hrun,hown,hbox,hbN⟩:=append_desc W4 (w.heap.size+3) O y ⟨fi,fl,0,c,1⟩ wr.heap.size HF4.wk hv4 b10 hle4;have HAP:=Hd hrun;obtain ⟨wA,hwA⟩:∃wA,wA=wN.setCell ⟨O,0,none⟩ (.slice aN (y.o.length+1) cN):=⟨_,rfl⟩
    have hwkA:Wk (w.heap.size+3) wA O ⟨aN,cN,y.o++[⟨fi,fl,0,c,1⟩],y.ta,y.tc,y.t⟩:=by rw [hwA];exact Wk.boxO hown hbox HFR.out.wk.lo b11
    have hbelA:Below (w.heap.size+3) W4 wA:=by rw [hwA];exact hbN.setCell (p:=⟨O,0,none⟩) HFR.out.wk.lo _
    have HF8:=Hd (HF4.turn hbelA hwkA);obtain ⟨z0,z1,z2,z3,z4⟩:=hbox.cc;obtain ⟨s0,s1,s2,s3,s4⟩:=HXC.out _ HH1.out;simp only [Nat.zero_add] at s0 s1 s2 s3 s4;clear HFR hrun hown hbox hbN hwkA hbelA HF4 hb4 hv4;go_upto_region 19 with (at_builtin;rw [←hW4];clear hW4;refine Lib.wpList_append_run _ rfl _ _ _ _ rfl _ _ rfl rfl _ _ HAP.out ?_)
    rw [←hwA];clear hwA HAP z0 z1 z2 z3 z4 x0 x1 x2 x3 x4 s0 s1 s2 s3 s4;have hOA:(0:Nat)=0:=rfl;exact cm129):p:=h
end Asiv
open Asiv in
set_option maxHeartbeats 8000000 in
theorem openR_any (x:Dv) (p fi fl c:Int) (w:World) (h:DIn w x) (hz:DSz x):
 Calls Tryz.prog 32 #[dVal x,p,fi,fl,c] w (OutP w x (openD x.pl p fi fl c) (fun v=>.tuple #[v,(openF x.pl p fi fl c),(openE x.pl p fi fl c)])):=by
 exact cm33
namespace Ahz1
theorem km7 {p : Prop} (h:p:=by
 go_enter Tryz.func98,Tryz.ntmps98;go_wp2_with fail;rw [←hW0];refine (HC.out W0 HB0.out).mono ?_;rintro e w1 ⟨y,rfl,hpl,hown,hb⟩;have HFR:Hid (Fr w x (w1.alloc (Obj.cells #[.slice y.oa y.o.length y.oc,.slice y.ta y.t.length y.tc] 83)) (w.heap.size+3) (w.heap.size+2) w1.heap.size y):=Fr.start HP0.out HP1.out HR0.out HB0.out b10 b10 (by rw [HS0.out];exact Nat.le_refl _) hown hb;have HPL:=Hd hpl;have hk0:w1.cell? (w 0 0)=some (.slice x.oa x.o.length x.oc):=(hb.cell (p:=(w 0 0)) (by rw [HS0.out];simp;try omega)).trans hp0;have hk1:w1.cell? (w 0 1)=some (.slice x.ta x.t.length x.tc):=(hb.cell (p:=(w 0 1)) (by rw [HS0.out];simp;try omega)).trans hp1;have hl1:w.heap.size<w1.heap.size:=by have:=hb.size;rw [HS0.out] at this;omega
 have hl2:w.heap.size+2≤w1.heap.size:=by have:=hb.size;rw [HS0.out] at this;omega
 obtain ⟨O,hO⟩:∃O,O=w1.heap.size:=⟨_,rfl⟩
 have HH1:Hid (Below W0 W0 (w1.alloc (Obj.cells #[.slice y.oa y.o.length y.oc,.slice y.ta y.t.length y.tc] 83))):=hb.trans (((Below.refl w1 w1).alloc Nr _).mono hb.size);clear hpl hown hb hW0 HC hp0 hp1 HB0 HR0 HP0 HP1;go_wp2_with fail;generalize w1.alloc (Obj.cells #[.slice y.oa y.o.length y.oc,.slice y.ta y.t.length y.tc] 83)=w2 at *;rw [←hO] at *;clear hO hk0 hk1;refine (HCK.out w2 HFR.out.bel).mono ?_;rintro e w3 ⟨rfl,hb⟩;replace HFR:=Hd (HFR.out.below hb);replace HH1:=Hd (HH1.out.trans (hb.mono HH1.out.size));clear hb HCK;have hyo:y.o=x.o:=congrArg De.o HPL.out;have HPT:Hid (y.t.map Tb.l=x.pl.t):=congrArg De.t HPL.out;have HYO:=Hd hyo;have h0:=HFR.out.p0;clear hyo;cases cv with
 |false=>
  have HNEG:Hid ((0:Int)≤0):=Int.le_refl _;clear h0;have HOE2:Hid (oe=1):=by have:=HOE.out;rw [if_pos rfl] at this;exact this
  have HOD2:Hid (od=x.pl):=by have:=HOD.out;rw [if_neg b21] at this;exact this
  obtain ⟨hA5,hD5,hB5⟩:=HFR.out.fin;have e0:=hA5.cell 0 _ rfl;have e1:=hA5.cell 1 _ rfl;have hpo:=HP.out y _ b41 hD5 hB5;rw [HOE2.out] at hpo;have HPo:=Hd hpo;obtain ⟨r0,r1,r2,r3,r4⟩:=HFR.out.r.two;obtain ⟨x0,x1,x2,x3,x4⟩:=HFR.out.wk.box.cc;clear hA5 hD5 hB5 hpo;go_wp2_with fail
  all_goals first|(exfalso;have:=HNEG.out;omega)|(generalize ((w3.setCell (w 2 0) (.slice y.oa y.o.length y.oc)).setCell (w 2 1) (.slice y.ta y.t.length y.tc))=w9 at *;exact bodyPost_ret (v:=.tuple #[.agg #[.slice y.oa y.o.length y.oc,.slice y.ta y.t.length y.tc],(1:Int)]) b90 rfl HPo.out)
 |true=>
  rw [if_neg b11] at HOE;by_cases hn:n<0∨(x.o.length:Int)≤n
  ·have HNEG:=Hd hn;have HOE2:Hid (oe=4):=by have:=HOE.out;rw [if_pos b10] at this;exact this
   have HOD2:Hid (od=x.pl):=by have:=HOD.out;rw [if_neg b21] at this;exact this
   clear hn;exact cl32
  ·obtain ⟨q,rfl⟩:∃q:Nat,n=(q:Int):=⟨n.toNat,by omega⟩
   rw [Int.toNat_natCast] at HOE HOD;have hq:q<x.o.length:=b10;have HQ:=Hd hq;obtain ⟨g,of,a1,a2,a3,a4⟩:=HDS.out w3 HFR.out.bel q hq;have hqX:(q:Int)<(x.o.length:Int):=b10;have k4:=a4.c4;rw [a1] at h0;have HNEG:Hid ((0:Int)≤0):=Int.le_refl _;generalize hrf2:(x.o.getD q Dn.zero).rf=rq at HOE k4;clear hrf2 a4 hn HDS;by_cases hr0:rq=0
   ·subst hr0;have HOE2:Hid (oe=4):=by have:=HOE.out;rw [if_pos b10] at this;exact this
    have HOD2:Hid (od=x.pl):=by have:=HOD.out;rw [if_neg b21] at this;exact this
    exact cl32
   ·have hr1:(rq==0)=false:=by simpa using hr0
    rw [if_neg b10] at HOE;obtain ⟨s0,s1,s2,s3,s4⟩:=HXC.out _ HH1.out;simp only [Nat.zero_add] at s0 s1 s2 s3 s4;go_wp2_with fail;refine (HMV.out w3).mono ?_;rintro e w4 ⟨rfl,hb⟩;replace HFR:=Hd (HFR.out.below hb);replace HH1:=Hd (HH1.out.trans (hb.mono HH1.out.size));clear hb HMV s0 s1 s2 s3 s4 h0 k4 a1 a2 a3;generalize movB f c=mb at *;cases mb with
    |false=>
     have HOE2:Hid (oe=2):=by have:=HOE.out;rw [if_pos rfl] at this;exact this
     have HOD2:Hid (od=x.pl):=by have:=HOD.out;rw [if_neg b21] at this;exact this
     obtain ⟨hA5,hD5,hB5⟩:=HFR.out.fin;have e0:=hA5.cell 0 _ rfl;have e1:=hA5.cell 1 _ rfl;have hpo:=HP.out y _ b41 hD5 hB5;rw [HOE2.out] at hpo;have HPo:=Hd hpo;obtain ⟨r0,r1,r2,r3,r4⟩:=HFR.out.r.two;obtain ⟨x0,x1,x2,x3,x4⟩:=HFR.out.wk.box.cc;clear hA5 hD5 hB5 hpo;go_wp2_with fail
     all_goals first|(exfalso;have:=HNEG.out;omega)|(generalize ((w4.setCell (w 2 0) (.slice y.oa y.o.length y.oc)).setCell (w 2 1) (.slice y.ta y.t.length y.tc))=w9 at *;exact bodyPost_ret (v:=.tuple #[.agg #[.slice y.oa y.o.length y.oc,.slice y.ta y.t.length y.tc],(2:Int)]) b90 rfl HPo.out)
    |true=>
     have HOE2:Hid (oe=0):=by have:=HOE.out;rw [if_neg b11] at this;exact this
     have hqy:q<y.o.length:=by rw [HYO.out];exact HQ.out
     obtain ⟨g3,b1,b2,b3,b4,b5,b6,b7⟩:=HFR.out.wk.own.descAt q hqy;rw [←HYO.out] at HOD;have HOD2:=HOD.out;rw [if_pos HOE2.out] at HOD2;replace HOD2:=Hd HOD2;have k2:=b4.c2;have k3:=b4.c3;have HF8:=Hd (HFR.out.turn ((Below.refl (w.heap.size+3) w4).setCell (p:=(g3 (q*5+2))) b6 (.int .i64 f)) (HFR.out.wk.putC b1 q hqy 2 b10 (.int .i64 f) ⟨(y.o.getD q Dn.zero).fi,(y.o.getD q Dn.zero).fl,f,(y.o.getD q Dn.zero).cu,(y.o.getD q Dn.zero).rf⟩ rfl));exact cm29):p:=h
theorem km29 {p : Prop} (h:p:=by
 generalize hwB:(((w4.setCell (g3 (q*5+2)) f).setCell (g3 (q*5+3)) c).drew)=wB at *;exact cm62):p:=h
theorem km34 {p : Prop} (h:p:=by
 have HCK:Hid (∀W,Below w w W→Calls Tryz.prog 127 #[.agg #[.slice x.oa x.o.length x.oc,.slice x.ta x.t.length x.tc]] W (RetW (.bool (checkV x.pl)) W)):=fun W hb=>check_any' x W (h.below hb) hz.o hz.t;have HMV:Hid (∀W,Calls Tryz.prog 128 #[.agg #[fi,fl,f,c,rf]] W (RetW (.bool (movB f c)) W)):=fun W=>moving_any ⟨fi,fl,f,c,rf⟩ W;exact cm56):p:=h
theorem km56 {p : Prop} (h:p:=by
 exact cm7):p:=h
theorem km62 {p : Prop} (h:p:=by
 exact bodyPost_ret (v:=.tuple #[.agg #[.slice (some (g3 0)) y.o.length y.oc,.slice y.ta y.t.length y.tc],I]) b90 rfl HPo.out):p:=h
end Ahz1
open Ahz1 in
set_option maxHeartbeats 8000000 in
theorem upd_any (x:Dv) (n fi fl f c rf:Int) (w:World) (h:DIn w x) (hz:DSz x):
 Calls Tryz.prog 98 #[dVal x,n,.agg #[fi,fl,f,c,rf]] w (OutP w x (updD x.pl n f c) (fun v=>.tuple #[v,(updE x.pl n f c)])):=by
 exact cm34
namespace Ap9y
theorem km7 {p : Prop} (h:p:=by
 go_enter Tryz.func82,Tryz.ntmps82;go_wp2_with fail;rw [←hW0];refine (HCK.out W0 HB0.out).mono ?_;rintro e w2 ⟨rfl,hb⟩;have HR2:=Hd (HR0.out.below hb HR0.out.hi);have HB2:=Hd (HB0.out.trans (hb.mono HB0.out.size));have h0:=(hb.cell (p:=(w 0 0)) (World.block_lt_of_cell? _ _ hp0)).trans hp0;have h1:=(hb.cell (p:=(w 0 1)) (World.block_lt_of_cell? _ _ hp1)).trans hp1;have hl2:w.heap.size+3≤w2.heap.size:=by rw [←HS0.out];exact hb.size
 have HH1:Hid (Below W0 W0 w2):=hb;clear hb HCK hp0 hp1 HB0 HR0 HP0 HP1 hW0;cases cv with
 |false=>
  have HNEG:Hid ((0:Int)≤0):=Int.le_refl _;have HOE2:Hid (oe=1):=by have:=HOE.out;rw [if_pos rfl] at this;exact this
  have HOD2:Hid (od=x.pl):=by have:=HOD.out;rw [if_neg b21] at this;exact this
  obtain ⟨r0,r1,r2,r3,r4⟩:=HR2.out.two;obtain ⟨hA5,hD5,hB5⟩:=ret_in HX.out HR2.out HB2.out b10;have e0:=hA5.cell 0 _ rfl;have e1:=hA5.cell 1 _ rfl;have hpo:=HP.out x _ b36 hD5 hB5;rw [HOE2.out] at hpo;have HPo:=Hd hpo;clear hA5 hD5 hB5 hpo;go_wp2_with fail
  all_goals first|(exfalso;have:=HNEG.out;omega)|(generalize ((w2.setCell (w 2 0) (.slice x.oa x.o.length x.oc)).setCell (w 2 1) (.slice x.ta x.t.length x.tc))=w9 at *;exact bodyPost_ret (v:=.tuple #[.agg #[.slice x.oa x.o.length x.oc,.slice x.ta x.t.length x.tc],(1:Int)]) b68 rfl HPo.out)
 |true=>
  rw [if_neg b11] at HOE;by_cases hn:n<0∨(x.o.length:Int)≤n
  ·have HNEG:=Hd hn;have HOE2:Hid (oe=4):=by have:=HOE.out;rw [if_pos b10] at this;exact this
   have HOD2:Hid (od=x.pl):=by have:=HOD.out;rw [if_neg b21] at this;exact this
   clear hn;obtain ⟨r0,r1,r2,r3,r4⟩:=HR2.out.two;obtain ⟨hA5,hD5,hB5⟩:=ret_in HX.out HR2.out HB2.out b10;have e0:=hA5.cell 0 _ rfl;have e1:=hA5.cell 1 _ rfl;have hpo:=HP.out x _ b36 hD5 hB5;rw [HOE2.out] at hpo;have HPo:=Hd hpo;clear hA5 hD5 hB5 hpo;go_wp2_with fail
   all_goals first|(exfalso;have:=HNEG.out;omega)|(generalize ((w2.setCell (w 2 0) (.slice x.oa x.o.length x.oc)).setCell (w 2 1) (.slice x.ta x.t.length x.tc))=w9 at *;exact bodyPost_ret (v:=.tuple #[.agg #[.slice x.oa x.o.length x.oc,.slice x.ta x.t.length x.tc],(4:Int)]) b68 rfl HPo.out)
  ·obtain ⟨q,rfl⟩:∃q:Nat,n=(q:Int):=⟨n.toNat,by omega⟩
   rw [Int.toNat_natCast] at HOE HOD;have hq:q<x.o.length:=b10;have HQ:=Hd hq;obtain ⟨g,of,a1,a2,a3,a4⟩:=HDS.out w2 HB2.out q hq;have hqX:(q:Int)<(x.o.length:Int):=b10;have k4:=a4.c4;have h0s:=h0;rw [a1] at h0;generalize hrf2:(x.o.getD q Dn.zero).rf=rq at HOE k4;clear hrf2 a4 hn HDS;by_cases hr0:rq=0
   ·subst hr0;have HNEG:Hid ((0:Int)≤0):=Int.le_refl _;have HOE2:Hid (oe=4):=by have:=HOE.out;rw [if_pos b10] at this;exact this
    have HOD2:Hid (od=x.pl):=by have:=HOD.out;rw [if_neg b21] at this;exact this
    clear h0s;have HA1:=Hd a1;obtain ⟨r0,r1,r2,r3,r4⟩:=HR2.out.two;obtain ⟨hA5,hD5,hB5⟩:=ret_in HX.out HR2.out HB2.out b10;have e0:=hA5.cell 0 _ rfl;have e1:=hA5.cell 1 _ rfl;have hpo:=HP.out x _ b36 hD5 hB5;rw [HOE2.out] at hpo;rw [a1] at hpo e0 e1;have HPo:=Hd hpo;clear hA5 hD5 hB5 hpo;go_wp2_with fail
    all_goals first|(exfalso;have:=HNEG.out;omega)|(generalize ((w2.setCell (w 2 0) (.slice (some (g of)) x.o.length x.oc)).setCell (w 2 1) (.slice x.ta x.t.length x.tc))=w9 at *;exact bodyPost_ret (v:=.tuple #[.agg #[.slice (some (g of)) x.o.length x.oc,.slice x.ta x.t.length x.tc],(4:Int)]) b68 rfl HPo.out)
   ·have hr1:(rq==0)=false:=by simpa using hr0
    rw [if_neg b10] at HOE;have HA1:=Hd a1;obtain ⟨s0,s1,s2,s3,s4⟩:=HXC.out _ HH1.out;simp only [Nat.zero_add] at s0 s1 s2 s3 s4;by_cases hm:0≤f∧f≤128∧0≤c∧c≤1000000
    ·have hmb:=HMB.out;rw [decide_eq_true hm] at hmb;have HOE2:Hid (oe=0):=by have:=HOE.out;rw [if_neg (by rw [hmb];simp)] at this;exact this
     obtain ⟨m1,m2,m3,m4⟩:=hm;clear hmb HMB HOE h0s;go_wp2_with fail;rw [←a1];refine (HC.out w2 HB2.out).mono ?_;rintro e w4 ⟨y,rfl,hpl,hown,hb⟩;rw [←a1] at h0;have HFR:Hid (Fr w x (w4.alloc (Obj.cells #[.slice y.oa y.o.length y.oc,.slice y.ta y.t.length y.tc] 83)) (w.heap.size+3) (w.heap.size+2) w4.heap.size y):=Fr.start h0 h1 HR2.out HB2.out b10 b10 hl2 hown hb;have HPL:=Hd hpl;replace HH1:=Hd ((HH1.out.trans (hb.mono HH1.out.size)).trans (((Below.refl w4 w4).alloc Nr (Obj.cells #[.slice y.oa y.o.length y.oc,.slice y.ta y.t.length y.tc] 83)).mono (Nat.le_trans HH1.out.size hb.size)));obtain ⟨w6,hw6⟩:∃w6,w6=w4.alloc (Obj.cells #[.slice y.oa y.o.length y.oc,.slice y.ta y.t.length y.tc] 83):=⟨_,rfl⟩
     obtain ⟨O,hO⟩:∃O,O=w4.heap.size:=⟨_,rfl⟩
     rw [←hw6] at HFR HH1;rw [←hO] at HFR;have hyo:y.o=x.o:=congrArg De.o HPL.out;have HPT:Hid (y.t.map Tb.l=x.pl.t):=congrArg De.t HPL.out;have HYO:=Hd hyo;clear hyo hpl hown hb HC h0 h1 s0 s1 s2 s3 s4 k4 a1 a2 a3 HR2 HB2 m1 m2 m3 m4;go_upto_region 8 with (fail)
     rw [←hw6,←hO];clear hw6 hO;have hqy:q<y.o.length:=by rw [HYO.out];exact HQ.out
     obtain ⟨g3,b1,b2,b3,b4,b5,b6,b7⟩:=HFR.out.wk.own.descAt q hqy;rw [←HYO.out] at HOD;have HOD2:=HOD.out;rw [if_pos HOE2.out] at HOD2;replace HOD2:=Hd HOD2;have k2:=b4.c2;have k3:=b4.c3;have HF8:=Hd (HFR.out.turn ((Below.refl (w.heap.size+3) w6).setCell (p:=(g3 (q*5+2))) b6 (.int .i64 f)) (HFR.out.wk.putC b1 q hqy 2 b10 (.int .i64 f) ⟨(y.o.getD q Dn.zero).fi,(y.o.getD q Dn.zero).fl,f,(y.o.getD q Dn.zero).cu,(y.o.getD q Dn.zero).rf⟩ rfl));exact cm29
    ·have hmb:=HMB.out;rw [decide_eq_false hm] at hmb;have HNEG:=Hd hm;have HOE2:Hid (oe=2):=by have:=HOE.out;rw [if_pos hmb] at this;exact this
     have HOD2:Hid (od=x.pl):=by have:=HOD.out;rw [if_neg b21] at this;exact this
     clear hm hmb HMB h0s;obtain ⟨r0,r1,r2,r3,r4⟩:=HR2.out.two;obtain ⟨hA5,hD5,hB5⟩:=ret_in HX.out HR2.out HB2.out b10;have e0:=hA5.cell 0 _ rfl;have e1:=hA5.cell 1 _ rfl;have hpo:=HP.out x _ b36 hD5 hB5;rw [HOE2.out] at hpo;rw [a1] at hpo e0 e1;have HPo:=Hd hpo;clear hA5 hD5 hB5 hpo;go_wp2_with fail
     all_goals first|(exfalso;have:=HNEG.out;omega)|(generalize ((w2.setCell (w 2 0) (.slice (some (g of)) x.o.length x.oc)).setCell (w 2 1) (.slice x.ta x.t.length x.tc))=w9 at *;exact bodyPost_ret (v:=.tuple #[.agg #[.slice (some (g of)) x.o.length x.oc,.slice x.ta x.t.length x.tc],(2:Int)]) b68 rfl HPo.out)):p:=h
theorem km29 {p : Prop} (h:p:=by
 generalize hwB:(((w6.setCell (g3 (q*5+2)) f).setCell (g3 (q*5+3)) c).drew)=wB at *;exact cm62):p:=h
theorem km33 {p : Prop} (h:p:=by
 have HCK:Hid (∀W,Below w w W→Calls Tryz.prog 47 #[.agg #[.slice x.oa x.o.length x.oc,.slice x.ta x.t.length x.tc]] W (RetW (.bool (checkV x.pl)) W)):=fun W hb=>checkR_any' x W (h.below hb) hz.o hz.t;exact cm56):p:=h
theorem km56 {p : Prop} (h:p:=by
 have HMB:Hid (movB f c=decide (0≤f∧f≤128∧0≤c∧c≤1000000)):=by
  unfold movB curB;rw [Hid,←Bool.decide_and];congr 1
  simp only [and_assoc]
 exact cm7):p:=h
theorem km62 {p : Prop} (h:p:=by
 exact bodyPost_ret (v:=.tuple #[.agg #[.slice (some (g3 0)) y.o.length y.oc,.slice y.ta y.t.length y.tc],I]) b68 rfl HPo.out):p:=h
end Ap9y
open Ap9y in
set_option maxHeartbeats 8000000 in
theorem updR_any (x:Dv) (n fi fl f c rf:Int) (w:World) (h:DIn w x) (hz:DSz x):
 Calls Tryz.prog 82 #[dVal x,n,.agg #[fi,fl,f,c,rf]] w (OutP w x (updD x.pl n f c) (fun v=>.tuple #[v,(updE x.pl n f c)])):=by
 exact cm33
end Go.Proofs.YtimhaidiclbnhaaGreat.Des
