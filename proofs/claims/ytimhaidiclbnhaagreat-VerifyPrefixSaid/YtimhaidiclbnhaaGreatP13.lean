import Derived.Test.YtimhaidiclbnhaaGreatP06
set_option linter.unusedSimpArgs false
set_option linter.unusedVariables false
set_option maxRecDepth 100000
open Go.ChangeShapes Go.WideShapes Go.ChangeAt Go.RowKit
namespace Go.Proofs.YtimhaidiclbnhaaGreat.Des
def itemR (c:Int) (a:Dn):Bool:=decide (a.rf=c)&&(if c=0 then decide (a=Dn.zero) else rightD a)
theorem itemB_of {c:Int} {a:Dn} (b:Bool) (h:itemR c a=false):itemB c b a=false:=by
 unfold itemR at h;unfold itemB;by_cases h1:a.rf=c
 ·by_cases h2:c=0
  ·simp only [h1,h2,decide_true,Bool.true_and,if_true] at h ⊢;rw [h,Bool.false_and]
  ·simp only [h1,h2,decide_true,Bool.true_and,if_false] at h ⊢;exact h
 ·rw [decide_eq_false h1,Bool.false_and]
theorem itemB_on {c:Int} {a:Dn} {b:Bool} (h:itemR c a=true) (hb:c≠0∨b=false):itemB c b a=true:=by
 unfold itemR at h;unfold itemB;by_cases h1:a.rf=c
 ·by_cases h2:c=0
  ·simp only [h1,h2,decide_true,Bool.true_and,if_true] at h ⊢;rcases hb with hb|hb
   ·exact absurd h2 hb
   ·rw [h,hb];rfl
  ·simp only [h1,h2,decide_true,Bool.true_and,if_false] at h ⊢;exact h
 ·rw [decide_eq_false h1,Bool.false_and] at h;cases h
theorem items_fin {d:De} (h:∀j,j<d.o.length→itemR ((refC d).getD j 0) (d.o.getD j Dn.zero)=true) (hl:d.o.length=0∨0<(refC d).getD (d.o.length-1) 0):itemsB d d.o.length=true:=by
 unfold itemsB;rw [List.all_eq_true];intro j hj;have hj':=List.mem_range.1 hj;refine itemB_on (h j hj') ?_;by_cases e:j+1=d.o.length
 ·left
  rcases hl with hl|hl
  ·omega
  ·rw [show d.o.length-1=j from by omega] at hl;omega
 ·exact Or.inr (decide_eq_false e)
theorem items_finF {d:De} (hn:d.o.length≠0) (hl:(refC d).getD (d.o.length-1) 0=0):checkV d=false:=by
 refine items_false (k:=d.o.length-1) b10 ?_;unfold itemB;rw [hl,if_pos rfl,decide_eq_true (show d.o.length-1+1=d.o.length from by omega)];simp
namespace A0yk
theorem km18 {p : Prop} (h:p:=by
 clear f0;obtain ⟨f0,fk⟩:=HF.out _ HB2.out;replace fk:=fk k hlt;generalize wr.alloc (Obj.cells #[fi,fl,f,cu,rf] 126)=wa at *;clear HI HB HD HF HW k0 k1 k2 k3 k4 HFI HFF ha HT;generalize C.getD k 0=c at *;generalize wr.heap.size=A at *;obtain ⟨k0,k1,k2,k3,k4⟩:=hA;simp only [Nat.zero_add] at k0 k1 k2 k3 k4;have HBX:=Hd (HBel.out.trans (HB2.out.mono HBel.out.size));by_cases hrf:rf=c
 ·subst hrf;by_cases hc0:rf=0
  ·subst hc0;by_cases hz:fi=0∧fl=0∧f=0∧cu=0
   ·obtain ⟨rfl,rfl,rfl,rfl⟩:=hz;have HV:=Hd (HJk.out rfl);refine wp_region_held_drew (S:=fun w'=>w'.cell? (A 0)=some (I:U)∧w'.cell? (A 1)=some (I:U)∧w'.cell? (A 2)=some (I:U)∧w'.cell? (A 3)=some (I:U)∧w'.cell? (A 4)=some (I:U)∧w'.cell? (w 1 k)=some (I:U)) b12 b15 (fun hHeld=>?_);exact cm28
   ·have HV := Hd (HIk.out (by
     unfold itemR;rw [if_pos rfl,decide_eq_false (show ¬((⟨fi,fl,f,cu,0⟩:Dn)=Dn.zero) from fun e=>hz (by cases e;exact ⟨rfl,rfl,rfl,rfl⟩)),Bool.and_false]))
    have HN:=Hd hz;clear hz;by_cases hn0:fi=0
    rotate_left
    ·
     refine wp_region_held_drew (S:=fun w'=>w'.cell? (A 0)=some (fi:U)∧w'.cell? (A 1)=some (fl:U)∧w'.cell? (A 2)=some (f:U)∧w'.cell? (A 3)=some (cu:U)∧w'.cell? (A 4)=some (I:U)∧w'.cell? (w 1 k)=some (I:U)) b12 b15 (fun hHeld=>?_);refine tk 0 ?_;refine tk 1 ?_;refine tk 2 ?_;refine tk 3 ?_;refine tk 4 ?_;refine tk 5 ?_;refine tk 6 ?_;refine tk 7 ?_;refine tk 8 ?_;refine tk 9 ?_;refine tk 10 ?_;refine tk 11 ?_;refine tk 12 ?_;refine tk 13 ?_;refine tk 14 ?_;refine tk 15 ?_;refine tk 16 ?_;refine tk 17 ?_;refine tk 18 ?_;refine tk 19 ?_;refine tn 20 ?_;refine tn 21 ?_;refine tn 22 ?_;refine tn 23 ?_;refine tn 24 ?_;refine tn 25 ?_;refine tn 26 ?_;refine tn 27 ?_;refine tn 28 ?_;refine tn 29 ?_;refine tk 30 ?_;refine wpAnyH_done b12 ?_ _;go_wp2_with fail;go_ret;exact RetW.mk b24 HBX.out.drew
    subst hn0;by_cases hn1:fl=0
    rotate_left
    ·
     refine wp_region_held_drew (S:=fun w'=>w'.cell? (A 0)=some (I:U)∧w'.cell? (A 1)=some (fl:U)∧w'.cell? (A 2)=some (f:U)∧w'.cell? (A 3)=some (cu:U)∧w'.cell? (A 4)=some (I:U)∧w'.cell? (w 1 k)=some (I:U)) b12 b15 (fun hHeld=>?_);refine tk 0 ?_;refine tk 1 ?_;refine tk 2 ?_;refine tk 3 ?_;refine tk 4 ?_;refine tk 5 ?_;refine tk 6 ?_;refine tk 7 ?_;refine tk 8 ?_;refine tk 9 ?_;refine tk 10 ?_;refine tk 11 ?_;refine tk 12 ?_;refine tk 13 ?_;refine tk 14 ?_;refine tk 15 ?_;refine tk 16 ?_;refine tk 17 ?_;refine tk 18 ?_;refine tk 19 ?_;refine tn 20 ?_;refine tn 21 ?_;refine tn 22 ?_;refine tn 23 ?_;refine tn 24 ?_;refine tn 25 ?_;refine tn 26 ?_;refine tn 27 ?_;refine tn 28 ?_;refine tn 29 ?_;refine tk 30 ?_;refine wpAnyH_done b12 ?_ _;go_wp2_with fail;go_ret;exact RetW.mk b24 HBX.out.drew
    subst hn1;by_cases hn2:f=0
    rotate_left
    ·
     refine wp_region_held_drew (S:=fun w'=>w'.cell? (A 0)=some (I:U)∧w'.cell? (A 1)=some (I:U)∧w'.cell? (A 2)=some (f:U)∧w'.cell? (A 3)=some (cu:U)∧w'.cell? (A 4)=some (I:U)∧w'.cell? (w 1 k)=some (I:U)) b12 b15 (fun hHeld=>?_);refine tk 0 ?_;refine tk 1 ?_;refine tk 2 ?_;refine tk 3 ?_;refine tk 4 ?_;refine tk 5 ?_;refine tk 6 ?_;refine tk 7 ?_;refine tk 8 ?_;refine tk 9 ?_;refine tk 10 ?_;refine tk 11 ?_;refine tk 12 ?_;refine tk 13 ?_;refine tk 14 ?_;refine tk 15 ?_;refine tk 16 ?_;refine tk 17 ?_;refine tk 18 ?_;refine tk 19 ?_;refine tn 20 ?_;refine tn 21 ?_;refine tn 22 ?_;refine tn 23 ?_;refine tn 24 ?_;refine tn 25 ?_;refine tn 26 ?_;refine tn 27 ?_;refine tn 28 ?_;refine tn 29 ?_;refine tk 30 ?_;refine wpAnyH_done b12 ?_ _;go_wp2_with fail;go_ret;exact RetW.mk b24 HBX.out.drew
    subst hn2;have hn3:¬cu=0:=fun e=>HN.out ⟨rfl,rfl,rfl,e⟩;refine wp_region_held_drew (S:=fun w'=>w'.cell? (A 0)=some (I:U)∧w'.cell? (A 1)=some (I:U)∧w'.cell? (A 2)=some (I:U)∧w'.cell? (A 3)=some (cu:U)∧w'.cell? (A 4)=some (I:U)∧w'.cell? (w 1 k)=some (I:U)) b12 b15 (fun hHeld=>?_);refine tk 0 ?_;refine tk 1 ?_;refine tk 2 ?_;refine tk 3 ?_;refine tk 4 ?_;refine tk 5 ?_;refine tk 6 ?_;refine tk 7 ?_;refine tk 8 ?_;refine tk 9 ?_;refine tk 10 ?_;refine tk 11 ?_;refine tk 12 ?_;refine tk 13 ?_;refine tk 14 ?_;refine tk 15 ?_;refine tk 16 ?_;refine tk 17 ?_;exact cl106
  ·have hpos:0<rf:=b10;have hc1:(rf==0)=false:=by simpa using hc0
   have hit:itemR rf ⟨fi,fl,f,cu,rf⟩=rightD ⟨fi,fl,f,cu,rf⟩:=by
    unfold itemR;rw [if_neg hc0,decide_eq_true rfl,Bool.true_and]
   rw [hit] at HIk HJk;have HFX:=Hd (fun W=>right_doc ⟨fi,fl,f,cu,rf⟩ W);simp only [dnVal] at HFX;clear hit;generalize rightD ⟨fi,fl,f,cu,rf⟩=b1 at *;have hsN:w.heap.size+1<wa.heap.size:=b10;cases b1 with
   |false=>
    have HV:=Hd (HIk.out rfl);refine wp_region_held_drew (S:=fun w'=>w'.cell? (A 0)=some (fi:U)∧w'.cell? (A 1)=some (fl:U)∧w'.cell? (A 2)=some (f:U)∧w'.cell? (A 3)=some (cu:U)∧w'.cell? (A 4)=some (rf:U)∧w'.cell? (w 1 k)=some (rf:U)) b12 b15 (fun hHeld=>?_);refine tk 0 ?_;refine tk 1 ?_;refine tk 2 ?_;refine tk 3 ?_;refine tk 4 ?_;refine tk 5 ?_;refine tk 6 ?_;refine tk 7 ?_;refine tk 8 ?_;refine tk 9 ?_;refine tk 10 ?_;refine tk 11 ?_;refine tk 12 ?_;refine tk 13 ?_;refine tn 14 ?_;refine tn 15 ?_;refine tn 16 ?_;refine tk 17 ?_;refine tk 18 ?_;refine tk 19 ?_;refine tk 20 ?_;refine tk 21 ?_;refine tk 22 ?_;refine tk 23 ?_;refine tk 24 ?_;refine tk 25 ?_;refine tk 26 ?_;refine wpAnyH_ready (rs:=[27]) b12 b11 ?_;refine AllReadyH.cons (o:=⟨some 112,.call {callee:=.value (.func 48),args:=#[.tmp 111],argTypes:=#[126]},4,_,#[⟨26,.data⟩,⟨25,.chain⟩,⟨25,.guard⟩],some (25,true)⟩) rfl (fun K hK=>?_) AllReadyH.nil;go_simp
    (first|(go_at_call 48;refine (HFX.out _).mono ?_;rintro e w3 ⟨rfl,hb⟩;have j0:=(hb.cell (p:=(A 0)) hsA).trans k0;have j1:=(hb.cell (p:=(A 1)) hsA).trans k1;have j2:=(hb.cell (p:=(A 2)) hsA).trans k2;have j3:=(hb.cell (p:=(A 3)) hsA).trans k3;have j4:=(hb.cell (p:=(A 4)) hsA).trans k4;have jk:=(hb.cell (p:=(w 1 k)) hsN).trans fk;have HBZ:=Hd (HBX.out.drew.trans (hb.mono HBX.out.drew.size));have HBY:=Hd (HB2.out.drew.trans (hb.mono HB2.out.drew.size))))
    go_wp2_with fail;refine hK.out _ _ b15 (fun hHeld=>?_);clear hK K;try go_frame
    refine tk 28 ?_;refine tk 29 ?_;refine tk 30 ?_;refine wpAnyH_done b12 ?_ _;go_wp2_with fail;go_ret;exact RetW.mk b24 HBZ.out
   |true=>
    have HV:=Hd (HJk.out rfl);refine wp_region_held_drew (S:=fun w'=>w'.cell? (A 0)=some (fi:U)∧w'.cell? (A 1)=some (fl:U)∧w'.cell? (A 2)=some (f:U)∧w'.cell? (A 3)=some (cu:U)∧w'.cell? (A 4)=some (rf:U)∧w'.cell? (w 1 k)=some (rf:U)) b12 b15 (fun hHeld=>?_);refine tk 0 ?_;refine tk 1 ?_;refine tk 2 ?_;refine tk 3 ?_;refine tk 4 ?_;refine tk 5 ?_;refine tk 6 ?_;refine tk 7 ?_;refine tk 8 ?_;refine tk 9 ?_;refine tk 10 ?_;refine tk 11 ?_;refine tk 12 ?_;refine tk 13 ?_;refine tn 14 ?_;refine tn 15 ?_;refine tn 16 ?_;refine tk 17 ?_;refine tk 18 ?_;refine tk 19 ?_;refine tk 20 ?_;refine tk 21 ?_;refine tk 22 ?_;refine tk 23 ?_;refine tk 24 ?_;refine tk 25 ?_;refine tk 26 ?_;refine wpAnyH_ready (rs:=[27]) b12 b11 ?_;refine AllReadyH.cons (o:=⟨some 112,.call {callee:=.value (.func 48),args:=#[.tmp 111],argTypes:=#[126]},4,_,#[⟨26,.data⟩,⟨25,.chain⟩,⟨25,.guard⟩],some (25,true)⟩) rfl (fun K hK=>?_) AllReadyH.nil;go_simp
    (first|(go_at_call 48;refine (HFX.out _).mono ?_;rintro e w3 ⟨rfl,hb⟩;have j0:=(hb.cell (p:=(A 0)) hsA).trans k0;have j1:=(hb.cell (p:=(A 1)) hsA).trans k1;have j2:=(hb.cell (p:=(A 2)) hsA).trans k2;have j3:=(hb.cell (p:=(A 3)) hsA).trans k3;have j4:=(hb.cell (p:=(A 4)) hsA).trans k4;have jk:=(hb.cell (p:=(w 1 k)) hsN).trans fk;have HBZ:=Hd (HBX.out.drew.trans (hb.mono HBX.out.drew.size));have HBY:=Hd (HB2.out.drew.trans (hb.mono HB2.out.drew.size))))
    go_wp2_with fail;refine hK.out _ _ b15 (fun hHeld=>?_);clear hK K;try go_frame
    refine tk 28 ?_;refine tk 29 ?_;refine tk 30 ?_;refine wpAnyH_done b12 ?_ _;go_wp2_with fail;go_roundw
    case rel=>exact ⟨k+1,by omega,by go_num,(by rw [hTN];exact HV),HBY.out⟩
    case measure=>simp [intOf];omega
 ·have HV:=Hd (HIk.out (by unfold itemR;rw [decide_eq_false hrf];rfl));have hrf1:(rf !=c)=true:=by simpa using hrf
  refine wp_region_held_drew (S:=fun w'=>w'.cell? (A 0)=some (fi:U)∧w'.cell? (A 1)=some (fl:U)∧w'.cell? (A 2)=some (f:U)∧w'.cell? (A 3)=some (cu:U)∧w'.cell? (A 4)=some (rf:U)∧w'.cell? (w 1 k)=some (c:U)) b12 b15 (fun hHeld=>?_);refine tk 0 ?_;refine tk 1 ?_;refine tk 2 ?_;refine tk 3 ?_;refine tk 4 ?_;refine tk 5 ?_;refine tk 6 ?_;refine tk 7 ?_;refine tn 8 ?_;refine tn 9 ?_;refine tn 10 ?_;refine tn 11 ?_;refine tn 12 ?_;refine tn 13 ?_;refine tn 14 ?_;refine tn 15 ?_;refine tn 16 ?_;refine tn 17 ?_;exact cl106):p:=h
theorem km28 {p : Prop} (h:p:=by
 refine tk 11 ?_;refine tk 12 ?_;refine tk 13 ?_;refine tk 14 ?_;refine tk 15 ?_;refine tk 16 ?_;refine tk 17 ?_;refine tk 18 ?_;refine tk 19 ?_;refine tk 20 ?_;refine tk 21 ?_;refine tk 22 ?_;refine tk 23 ?_;refine tk 24 ?_;refine tk 25 ?_;refine tn 26 ?_;refine tn 27 ?_;refine tn 28 ?_;refine tk 29 ?_;refine tk 30 ?_;refine wpAnyH_done b12 ?_ _;go_wp2_with fail;go_roundw
 case rel=>exact ⟨k+1,by omega,by go_num,(by rw [hTN];exact HV),HB2.out.drew⟩
 case measure=>simp [intOf];omega):p:=h
theorem km44 {p : Prop} (h:p:=by
 have htp:=tab_pref (m:=o.length) (t:=t.map Tb.l) (k:=k) (by simpa using hlt);have htf:=tab_false (m:=o.length) (t:=t.map Tb.l) (k:=k) (by simpa using hlt);have hbd:=flat_bd HT.out;rw [List.length_take,List.length_map] at hbd;rw [HT.out,Bool.true_and] at htp;rw [map_getD _ _ hlt] at hfl htp htf;generalize t.getD k Tb.nil=y at *;obtain ⟨ya,yc,yl⟩:=y;simp only at hfl htp htf hcell HN HCL;have HFL:=Hd hfl;have HTP:=Hd htp;have HTF:Hid (tabB o.length yl=false→cv=false):=fun hh=>HNR.out (htf hh);have p0:=HW.out.p0;have p1:=HW.out.p1;have hbd2:((t.map Tb.l).take k).flatten.length≤16000:=by
  rw [hbd];omega
 have HBD:=Hd hbd2;clear hfl htp htf hbd hbd2;generalize ((t.map Tb.l).take k).flatten=L at *;by_cases h16:yl.length=16
 ·have h16':(yl.length:Int)=16:=b10;go_wp2_with fail;go_loopw [5] (fun v5 wr=>∃j:Nat,j≤16∧v5=.int .i64 j∧Hid ((yl.take j).all (fun z=>decide (0≤z∧z≤(o.length:Int)))=true)∧Hid (RefW w (.slice oa o.length oc) (.slice (some (g of)) t.length tc) wr (cntL (L++yl.take j) o.length))) (fun v5 _=>200-(intOf v5).toNat)
  case atStart=>exact ⟨0,Nat.zero_le _,rfl,rfl,by rw [List.take_zero,List.append_nil];exact HW⟩
  case round=>as_aux_lemma=>
   clear HW p0 p1 hcell HT;obtain ⟨j,hj,rfl,HA,HW⟩:=hrel;have p0:=HW.out.p0;have p1:=HW.out.p1;have hcell:=HCL.out _ HW.out.bel;by_cases hj16:j<16
   ·exact cm71
   ·obtain rfl:j=16:=b10;have htt:yl.take 16=yl:=List.take_of_length_le b10;have hA:=HA.out;rw [htt] at hA;have htb:tabB o.length yl=true:=by
     unfold tabB;rw [hA,decide_eq_true h16];rfl
    exact cl59
 ·have h16':(yl.length:Int)≠16:=b10;have HF:=Hd (HTF.out (by unfold tabB;rw [decide_eq_false h16];rfl));clear h16;go_wp2_with fail;go_ret;exact RetW.mk (by rw [HF.out];try rfl) HW.out.bel):p:=h
theorem km71 {p : Prop} (h:p:=by
 have HBAD : Hid (¬ (0 ≤ z ∧ z ≤ (o.length : Int)) → cv = false) := fun hz => HTF.out (by
  unfold tabB;rw [Bool.and_eq_false_iff];exact Or.inr (List.all_eq_false.2 ⟨z,HMEM.out,by simpa using hz⟩))
 by_cases hz:0≤z∧z≤(o.length:Int)
 ·have HA2:Hid ((yl.take (j+1)).all (fun z=>decide (0≤z∧z≤(o.length:Int)))=true):=by
   rw [Hid,HTK.out,List.all_append,HA.out,Bool.true_and];simpa using hz
  obtain ⟨z1,z2⟩:=hz;by_cases hz0:z=0
  ·subst hz0;have HW2:=HW.out;rw [←cnt_zero,List.append_assoc,←HTK.out] at HW2;replace HW2:=Hd HW2;exact cl53
  ·obtain ⟨q,hq⟩:∃q:Nat,z=(q:Int)+1:=⟨(z-1).toNat,by omega⟩
   subst hq;have hqm:q<o.length:=b10;have hqm':(q:Int)<(o.length:Int):=b10;have hrd:=HW.out.row.cell q _ (ints_at _ q (by rw [cnt_len];exact hqm));have hfz:=HW.out.row.free q (by rw [ints_len,cnt_len];exact hqm);have hcb:=cnt_bd (L++yl.take j) o.length q hqm;rw [List.length_append,List.length_take] at hcb;have hLb:=HBD.out;have HW2:=HW.out.set q ((cntL (L++yl.take j) o.length).getD q 0+1);rw [cnt_set _ _ _ hqm,List.append_assoc,←HTK.out] at HW2;replace HW2:=Hd HW2;have hc0:0≤(cntL (L++yl.take j) o.length).getD q 0:=hcb.1;have hc9:(cntL (L++yl.take j) o.length).getD q 0≤17000:=b10;clear hcb;generalize (cntL (L++yl.take j) o.length).getD q 0=c at *;have hwq:IntKind.i64.wrap ((q:Int)+1-1)=(q:Int):=by
    rw [show (q:Int)+1-1=q from by omega];exact IntWalk.i64_in _ b10
   exact cl53
 ·have HF:=Hd (HBAD.out hz);have HN2:=Hd hz;clear hz;go_wp2_with fail
  all_goals first|(exfalso;have:=HN2.out;omega)|(go_ret;exact RetW.mk (by rw [HF.out];try rfl) HW.out.bel)):p:=h
theorem km74 {p : Prop} (h:p:=by
 have hRE:refOK x.pl=(x.t.map Tb.l).all (tabB x.o.length):=rfl;have HCE:Hid (refC x.pl=cntL (x.t.map Tb.l).flatten x.o.length):=rfl;rw [hRE] at HFI HNR HB;clear h hRE;generalize checkV x.pl=cv at *;generalize refC x.pl=C at *;unfold dVal;obtain ⟨oa,oc,o,ta,tc,t⟩:=x;simp only at HR HD ho ht hcap hcapo HI HFI HFF HNL HNR HB HL HCE;by_cases hl:1≤t.length∧t.length≤8∧o.length≤128
 ·replace HFI:=Hd (fun h1=>HFI.out h1 hl);obtain ⟨l1,l2,l3⟩:=hl;have l1':(1:Int)≤(t.length:Int):=b10;have l2':(t.length:Int)≤8:=b10;have l3':(o.length:Int)≤128:=b10;have HC0:Hid (RefW w (.slice oa o.length oc) (.slice ta t.length tc) ((w.alloc (Obj.cells #[.slice oa o.length oc,.slice ta t.length tc] 83)).alloc (.cells (madeCells #[I] o.length) 3)) (cntL [] o.length)):=RefW.start _ _ _ _;have hmk:=make_run o.length b10;obtain ⟨Z,hZ⟩:∃Z,Z=madeCells #[I] o.length:=⟨_,rfl⟩
  rw [←hZ] at hmk HC0;clear hZ;go_enter Tryz.func47,Tryz.ntmps47;go_wp2_with fail;clear hmk;generalize (w.alloc (Obj.cells #[.slice oa o.length oc,.slice ta t.length tc] 83)).alloc (.cells Z 3)=w1 at *;go_loopw [4] (fun v4 wr=>∃k:Nat,k≤t.length∧v4=.int .i64 k∧Hid (((t.map Tb.l).take k).all (tabB o.length)=true)∧Hid (RefW w (.slice oa o.length oc) (.slice ta t.length tc) wr (cntL ((t.map Tb.l).take k).flatten o.length))) (fun v4 _=>2000-(intOf v4).toNat)
  case atStart=>exact ⟨0,Nat.zero_le _,rfl,rfl,HC0⟩
  case round=>
   obtain ⟨k,hk,rfl,HT,HW⟩:=hrel;by_cases hlt:k<t.length
   ·have hlt':(k:Int)<(t.length:Int):=b10;obtain ⟨g,of,rfl,_,_,hcell,_⟩:=HR.out wr HW.out.bel k hlt;have HCL:Hid (∀W,Below w w W→W.cell? (g (of+k))=some (.slice (t.getD k Tb.nil).a (t.getD k Tb.nil).l.length (t.getD k Tb.nil).c)):=fun W hb=>by
     obtain ⟨_,_,e1,_,_,e4,_⟩:=HR.out W hb k hlt;cases e1;exact e4
    exact cm44
   ·obtain rfl:k=t.length:=b10;have htt:(t.map Tb.l).take t.length=t.map Tb.l:=List.take_of_length_le b11;rw [htt] at HT HW;rw [HT.out] at HFI HB;rw [←HCE.out] at HW;clear htt HT HNR HCE HNL HC0 HR;have p0:=HW.out.p0;have p1:=HW.out.p1;have HF:Hid (∀W,Below wr wr W→W.cell? (w 0 0)=some (.slice oa o.length oc)∧∀k,k<o.length→W.cell? (w 1 k)=some ((C.getD k 0):U)):=fun W hbW=>
     ⟨(hbW.cell (p:=(w 0 0)) (by have:=HW.out.row.hi;show w.heap.size<wr.heap.size;omega)).trans HW.out.p0,fun k hk=>(hbW.cell (p:=(w 1 k)) HW.out.row.hi).trans (HW.out.row.cell k _ (ints_at _ k (by rw [HL.out];exact hk)))⟩
    have HBel:=Hd HW.out.bel;have hsz:w.heap.size+1<wr.heap.size:=HW.out.row.hi;clear HW;generalize wr=w2 at *;go_wp2_with fail;clear p0 p1;go_loopw [7] (fun v7 wr=>∃k:Nat,k≤o.length∧v7=.int .i64 k∧Hid (∀j,j<k→itemR (C.getD j 0) (o.getD j Dn.zero)=true)∧Hid (Below w2 w2 wr)) (fun v7 _=>300-(intOf v7).toNat)
    case atStart=>exact ⟨0,Nat.zero_le _,rfl,(fun j hj=>absurd hj (Nat.not_lt_zero _)),Below.refl _ _⟩
    case round=>as_aux_lemma=>
     obtain ⟨k,hk,rfl,HT,HW⟩:=hrel;have HBW:=Hd (HBel.out.trans (HW.out.mono HBel.out.size));by_cases hlt:k<o.length
     ·have hlt':(k:Int)<(o.length:Int):=b10;obtain ⟨g,of,rfl,_,_,hcel⟩:=HD.out wr HBW.out k hlt;have HJk:Hid (itemR (C.getD k 0) (o.getD k Dn.zero)=true→∀j,j<k+1→itemR (C.getD j 0) (o.getD j Dn.zero)=true):=fun hh j hj=>by
       by_cases e:j=k
       ·rw [e];exact hh
       ·exact HT.out j b10
      have HIk:=Hd (HI.out k hlt);obtain ⟨cb0,cb1⟩:=HB.out b55 k hlt;obtain ⟨f0,_⟩:=HF.out _ HW.out;have hlw:w2.heap.size≤wr.heap.size:=HW.out.size;have HT3:Hid (∀j,j<k+1→itemR (C.getD j 0) (o.getD j Dn.zero)=true)=(∀j,j<k+1→itemR (C.getD j 0) (o.getD j Dn.zero)=true):=rfl;generalize hTN:(∀j,j<k+1→itemR (C.getD j 0) (o.getD j Dn.zero)=true)=TN at *;generalize ha:o.getD k Dn.zero=a at HJk HIk hcel;obtain ⟨fi,fl,f,cu,rf⟩:=a;obtain ⟨k0,k1,k2,k3,k4⟩:=hcel;simp only at k0 k1 k2 k3 k4;exact cm18
     ·obtain rfl:k=o.length:=b10;obtain ⟨f0,fk⟩:=HF.out _ HW.out;by_cases ho0:o.length=0
      ·have HV:=Hd (HFI.out b55 HT.out (Or.inl ho0));have h0':(o.length:Int)=0:=b10;clear fk;go_wp2_with fail;go_ret;exact RetW.mk (by rw [HV.out];try simp [h0']) HBW.out
      ·replace fk:=fk (o.length-1) b10;obtain ⟨cb0,_⟩:=HB.out b55 (o.length-1) b10;have HFI2:Hid (0<C.getD (o.length-1) 0→cv=true):=fun hh=>HFI.out b55 HT.out (Or.inr hh);have HFF2:Hid (C.getD (o.length-1) 0=0→cv=false):=fun hh=>HFF.out ho0 hh;clear HFI HFF HI HF HT HB;generalize C.getD (o.length-1) 0=c at *;have h0':(o.length:Int)≠0:=b10;by_cases hc0:c=0
       ·subst hc0;have HV:=Hd (HFF2.out rfl);go_wp2_with fail;go_ret;exact RetW.mk (by rw [HV.out];simp;intro e;exact ho0 (by rw [e];rfl)) HBW.out
       ·have hcp:0<c:=b10;have HV:=Hd (HFI2.out hcp);go_wp2_with fail;go_ret;exact RetW.mk (by rw [HV.out];try simp [hcp]) HBW.out
 ·have HV:=Hd (HNL.out hl);have HN:=Hd hl;clear hl;go_enter Tryz.func47,Tryz.ntmps47;go_wp2_with fail
  all_goals first|(exfalso;have:=HN.out;omega)|(go_ret;exact RetW.mk b24 ((Below.refl _ w).alloc Nr _))):p:=h
end A0yk
open A0yk in
set_option maxHeartbeats 4000000 in
theorem checkR_any' (x:Dv) (w:World) (h:DIn w x) (ho:x.o.length≤10000) (ht:x.t.length≤1000):
 Calls Tryz.prog 47 #[dVal x] w (RetW (.bool (checkV x.pl)) w):=by
 have HR:=Hd h.rows;have HD:=Hd h.descs;have hcap:=h.t.cap;have hcapo:=h.o.cap;have HI:Hid (∀k,k<x.o.length→itemR ((refC x.pl).getD k 0) (x.o.getD k Dn.zero)=false→checkV x.pl=false):=fun k hk hh=>items_false (d:=x.pl) hk (itemB_of _ hh);have HFI:Hid (refOK x.pl=true→(1≤x.t.length∧x.t.length≤8∧x.o.length≤128)→(∀j,j<x.o.length→itemR ((refC x.pl).getD j 0) (x.o.getD j Dn.zero)=true)→(x.o.length=0∨0<(refC x.pl).getD (x.o.length-1) 0)→checkV x.pl=true):=fun h1 h2 h3 h4=>by
  unfold checkV;rw [h1,show x.pl.t.length=x.t.length from List.length_map _,show x.pl.o.length=x.o.length from rfl,decide_eq_true h2,Bool.true_and,Bool.true_and];exact items_fin (d:=x.pl) h3 h4
 have HFF:Hid (x.o.length≠0→(refC x.pl).getD (x.o.length-1) 0=0→checkV x.pl=false):=fun h1 h2=>items_finF (d:=x.pl) h1 h2;have HNL:Hid (¬(1≤x.t.length∧x.t.length≤8∧x.o.length≤128)→checkV x.pl=false):=fun hh=>by
  unfold checkV;rw [show x.pl.t.length=x.t.length from List.length_map _,show x.pl.o.length=x.o.length from rfl,decide_eq_false hh,Bool.and_false,Bool.false_and]
 have HNR:Hid (refOK x.pl=false→checkV x.pl=false):=fun hh=>by
  unfold checkV;rw [hh,Bool.false_and,Bool.false_and]
 exact cm74
theorem num_ok {d:De} {p f:Int} (h:numE d p f=0):checkV d=true∧0≤p∧p<(d.t.length:Int)∧0≤f∧f<16∧∃q:Nat,q<d.o.length∧numV d p f=(q:Int)∧entAt d p f=(q:Int)+1:=by
 have hp:procV d p=0:=by
  unfold numE at h;by_cases hp:procV d p=0
  ·exact hp
  ·rw [if_pos hp] at h;exact h
 have h2:¬(f<0∨16≤f∨entAt d p f=0):=fun hh=>by
  unfold numE at h;rw [if_neg b10,if_pos hh] at h;cases h
 obtain ⟨c1,c2,c3⟩:=procV_ok hp;have h3:=(check_tab c1 p.toNat b10).2 f.toNat b10;have h4:entAt d p f=(d.t.getD p.toNat []).getD f.toNat 0:=rfl;rw [←h4] at h3;refine ⟨c1,c2,c3,by omega,by omega,(entAt d p f-1).toNat,by omega,?_,by omega⟩;unfold numV;rw [if_pos h];omega
def lookV (d:De) (p f:Int):Dn:=if numE d p f=0 then d.o.getD (numV d p f).toNat Dn.zero else Dn.zero
def lookR (d:De) (p f:Int):Value:=.tuple #[(numV d p f),dnVal (lookV d p f),(numE d p f)]
theorem At.drew {W:World} {b:Nat} {cs:List Value} (h:At W b cs):At W.drew b cs:=⟨h.r,h.t,h.hi⟩
def Z5:List Value:=[I,I,I,I,I]
theorem At.five {W:World} {b:Nat} {a0 a1 a2 a3 a4:Value} (h:At W b [a0,a1,a2,a3,a4]):(W.cell? (b 0)=some a0∧W.cell? (b 1)=some a1∧W.cell? (b 2)=some a2∧W.cell? (b 3)=some a3∧W.cell? (b 4)=some a4)∧(W.frozen? (b 0)=false∧W.frozen? (b 1)=false∧W.frozen? (b 2)=false∧W.frozen? (b 3)=false∧W.frozen? (b 4)=false)∧b<W.heap.size:=
 ⟨⟨h.cell 0 _ rfl,h.cell 1 _ rfl,h.cell 2 _ rfl,h.cell 3 _ rfl,h.cell 4 _ rfl⟩,⟨h.free 0 b11,h.free 1 b11,h.free 2 b11,h.free 3 b11,h.free 4 b11⟩,h.hi⟩
namespace Annt
theorem km16 {p : Prop} (h:p:=by
 refine bodyPost_ret (v:=.tuple #[q,.agg #[fi,fl,ff,cu,rf],I]) (by simp [results,Tryz.results123,go_sem,d0,d1,d2,d3,d4]) rfl ?_;exact ⟨by rw [HL.out];rfl,hb6⟩):p:=h
theorem km40 {p : Prop} (h:p:=by
 go_enter Tryz.func123,Tryz.ntmps123;go_wp2_with fail;rw [←hW0];refine (HC.out W0 HB0.out).mono ?_;rintro e w2 ⟨rfl,hb⟩;have hk0:w2.cell? (w 0 0)=some (.slice oa o.length oc):=(hb.cell (p:=(w 0 0)) b25).trans hp0;have HA:=HA0.out.below hb HA0.out.hi;have HB:Hid (Below w w w2):=HB0.out.trans (hb.mono (by rw [HS0.out];omega));clear hp0 hp1 hW0 hb HA0 HC;unfold Z5 at HA;have HAA:=Hd HA;obtain ⟨⟨c0,c1,c2,c3,c4⟩,⟨y0,y1,y2,y3,y4⟩,hlt⟩:=HA.five;clear HA;by_cases hne:ne=0
 ·subst hne;obtain ⟨q,hq,rfl⟩:=HOK.out rfl;obtain ⟨g,of,rfl,hca,hcb,hcel⟩:=HD.out w2 HB.out q hq;rw [if_pos rfl,Int.toNat_natCast] at HL;have hq':(q:Int)<(o.length:Int):=b10;generalize o.getD q Dn.zero=a at *;obtain ⟨fi,fl,ff,cu,rf⟩:=a;obtain ⟨k0,k1,k2,k3,k4⟩:=hcel;simp only at k0 k1 k2 k3 k4;exact cm16
 ·have HL2:=HL.out;rw [if_neg hne,HNZ.out hne] at HL2;replace HL2:=Hd HL2;have hw5:=HAA.out.store [I,I,I,I,I] rfl;have hb5:Below w w (w2.setCells (w.heap.size+1) 0 [I,I,I,I,I]):=below_cells b10 _ _ HB.out;simp only [World.setCells] at hw5 hb5;go_wp2_with fail;generalize ((((w2.setCell (w 1 0) I).setCell (w 1 1) I).setCell (w 1 2) I).setCell (w 1 3) I).setCell (w 1 4) I=w5 at *;have d5:=hw5.five;obtain ⟨⟨d0,d1,d2,d3,d4⟩,_,_⟩:=d5;refine bodyPost_ret (v:=.tuple #[I,.agg #[I,I,I,I,I],ne]) (by simp [results,Tryz.results123,go_sem,d0,d1,d2,d3,d4]) rfl ?_;exact ⟨by rw [HL2.out];rfl,hb5⟩):p:=h
end Annt
open Annt in
set_option maxHeartbeats 4000000 in
theorem lookup_any (x:Dv) (p f:Int) (w:World) (h:DIn w x) (hz:DSz x):
 Calls Tryz.prog 123 #[dVal x,p,f] w (RetW (lookR x.pl p f) w):=by
 have HC:=Hd (fun W hb=>number_any x p f W (h.below hb) hz);have HD:=Hd h.descs;have HOK:Hid (numE x.pl p f=0→∃q:Nat,q<x.o.length∧numV x.pl p f=(q:Int)):=fun hh=>by
  obtain ⟨_,_,_,_,_,q,h1,h2,_⟩:=num_ok hh;exact ⟨q,h1,h2⟩
 have HL:Hid (lookR x.pl p f=.tuple #[(numV x.pl p f),dnVal (if numE x.pl p f=0 then x.o.getD (numV x.pl p f).toNat Dn.zero else Dn.zero),(numE x.pl p f)]):=rfl;have hol:=hz.o;have HNZ:Hid (numE x.pl p f≠0→numV x.pl p f=0):=fun hh=>by unfold numV;rw [if_neg hh]
 clear h hz;generalize lookR x.pl p f=LR at *;generalize numE x.pl p f=ne at *;generalize numV x.pl p f=nv at *;unfold dVal at HC ⊢;obtain ⟨oa,oc,o,ta,tc,t⟩:=x;simp only at HC HD HOK HL hol;exact cm40
namespace Axpx
theorem km16 {p : Prop} (h:p:=by
 refine bodyPost_ret (v:=.tuple #[q,.agg #[fi,fl,ff,cu,rf],I]) b81 rfl ?_;exact ⟨by rw [HL2.out];rfl,hb6⟩):p:=h
theorem km40 {p : Prop} (h:p:=by
 go_enter Tryz.func43,Tryz.ntmps43;go_wp2_with fail;rw [←hW0];refine (HC.out W0 HB0.out).mono ?_;rintro e w2 ⟨rfl,hb⟩;have hk0:w2.cell? (w 0 0)=some (.slice oa o.length oc):=(hb.cell (p:=(w 0 0)) b25).trans hp0;have hk1:w2.cell? (w 0 1)=some (.slice ta t.length tc):=(hb.cell (p:=(w 0 1)) b25).trans hp1;have HA:=HA0.out.below hb HA0.out.hi;have HB:Hid (Below w w w2):=HB0.out.trans (hb.mono (by rw [HS0.out];omega));clear hp0 hp1 hW0 hb HA0 HC;unfold Z5 at HA;have HAA:=Hd HA;obtain ⟨⟨c0,c1,c2,c3,c4⟩,⟨y0,y1,y2,y3,y4⟩,hlt⟩:=HA.five;clear HA;cases cv with
 |false=>
  have hpv:pv=1:=HP.out;have HE2:Hid (ne=1):=by have:=HE.out;rw [if_pos (by rw [hpv];decide),hpv] at this;exact this
  have HL2:Hid (LR=.tuple #[I,dnVal Dn.zero,(1:Int)]):=by have:=HL.out;rw [HNZ.out b54,HE2.out] at this;exact this
  have HNEG:Hid ((0:Int)≤0):=Int.le_refl _;clear hpv;have hw5:=HAA.out.store [I,I,I,I,I] rfl;have hb5:Below w w (w2.setCells (w.heap.size+1) 0 [I,I,I,I,I]):=below_cells b10 _ _ HB.out;simp only [World.setCells] at hw5 hb5;go_wp2_with fail
  all_goals first|(exfalso;have:=HNEG.out;omega)|(generalize ((((w2.setCell (w 1 0) I).setCell (w 1 1) I).setCell (w 1 2) I).setCell (w 1 3) I).setCell (w 1 4) I=w5 at *;obtain ⟨⟨d0,d1,d2,d3,d4⟩,_,_⟩:=hw5.five;refine bodyPost_ret (v:=.tuple #[I,.agg #[I,I,I,I,I],(1:Int)]) b81 rfl ?_;exact ⟨by rw [HL2.out];rfl,hb5⟩)
 |true=>
  by_cases hp:p<0∨(t.length:Int)≤p
  ·have hpv:pv=2:=by have:=HP.out;rw [if_neg b11,if_pos hp] at this;exact this
   have HE2:Hid (ne=2):=by have:=HE.out;rw [if_pos (by rw [hpv];decide),hpv] at this;exact this
   have HL2:Hid (LR=.tuple #[I,dnVal Dn.zero,(2:Int)]):=by have:=HL.out;rw [HNZ.out b54,HE2.out] at this;exact this
   have HNEG:=Hd hp;clear hpv hp;have hw5:=HAA.out.store [I,I,I,I,I] rfl;have hb5:Below w w (w2.setCells (w.heap.size+1) 0 [I,I,I,I,I]):=below_cells b10 _ _ HB.out;simp only [World.setCells] at hw5 hb5;go_wp2_with fail
   all_goals first|(exfalso;have:=HNEG.out;omega)|(generalize ((((w2.setCell (w 1 0) I).setCell (w 1 1) I).setCell (w 1 2) I).setCell (w 1 3) I).setCell (w 1 4) I=w5 at *;obtain ⟨⟨d0,d1,d2,d3,d4⟩,_,_⟩:=hw5.five;refine bodyPost_ret (v:=.tuple #[I,.agg #[I,I,I,I,I],(2:Int)]) b81 rfl ?_;exact ⟨by rw [HL2.out];rfl,hb5⟩)
  ·have hpv:pv=0:=by have:=HP.out;rw [if_neg b11,if_neg hp] at this;exact this
   subst hpv;obtain ⟨q0,q1,q2,q3,q4⟩:=HOK.out rfl;obtain ⟨k,rfl⟩:∃k:Nat,p=(k:Int):=⟨p.toNat,by omega⟩
   rw [Int.toNat_natCast] at q3;obtain ⟨g,of,rfl,e1,e2,e3,e4⟩:=HR.out w2 HB.out k b10;rw [if_neg b11] at HE;have Q2:=Hd q2;have Q4:=Hd q4;clear HR HOK q2 q4 hp HP;subst q3;generalize t.getD k Tb.nil=y at *;obtain ⟨ya,yc,yl⟩:=y;simp only at HE HN Q2 Q4 e3 e4;have hyl:(yl.length:Int)=16:=by rw [Q2.out];rfl
   by_cases hf:f<0∨16≤f
   ·have HE2:Hid (ne=4):=by have:=HE.out;rw [if_pos b10] at this;exact this
    have HL2:Hid (LR=.tuple #[I,dnVal Dn.zero,(4:Int)]):=by have:=HL.out;rw [HNZ.out b54,HE2.out] at this;exact this
    have HNEG:=Hd hf;clear hf e4;exact cl24
   ·obtain ⟨j,rfl⟩:∃j:Nat,f=(j:Int):=⟨f.toNat,by omega⟩
    rw [Int.toNat_natCast] at HE HN;obtain ⟨g',of',rfl,b1,b2,b3⟩:=e4 j b10;obtain ⟨z0,z1⟩:=Q4.out j b10;have hj1:(j:Int)<16:=b10;clear e4 hf;generalize yl.getD j 0=z at *;by_cases hzz:z=0
    ·subst hzz;have HE2:Hid (ne=4):=by have:=HE.out;rw [if_pos b10] at this;exact this
     have HL2:Hid (LR=.tuple #[I,dnVal Dn.zero,(4:Int)]):=by have:=HL.out;rw [HNZ.out b54,HE2.out] at this;exact this
     have HNEG:Hid ((0:Int)≤0):=Int.le_refl _;exact cl24
    ·have HE2:Hid (ne=0):=by have:=HE.out;rw [if_neg b10] at this;exact this
     obtain ⟨q,rfl⟩:∃q:Nat,z=(q:Int)+1:=⟨(z-1).toNat,by omega⟩
     have HN2:Hid (nv=q):=by have:=HN.out;rw [if_pos HE2.out] at this;rw [Hid,this];omega
     have hzb:(((q:Int)+1)==0)=false:=by simpa using hzz
     have hwq:IntKind.i64.wrap ((q:Int)+1-1)=(q:Int):=by
      rw [show (q:Int)+1-1=q from by omega];exact IntWalk.i64_in _ b10
     obtain ⟨g3,o3,rfl,hca,hcb,hcel⟩:=HD.out w2 HB.out q b10;have HL2:=HL.out;rw [HE2.out,HN2.out,if_pos rfl,Int.toNat_natCast] at HL2;replace HL2:=Hd HL2;have hq':(q:Int)<(o.length:Int):=b10;generalize o.getD q Dn.zero=a at *;obtain ⟨fi,fl,ff,cu,rf⟩:=a;obtain ⟨k0,k1,k2,k3,k4⟩:=hcel;simp only at k0 k1 k2 k3 k4;clear hzz HL;exact cm16):p:=h
theorem km68 {p : Prop} (h:p:=by
 clear h hz;generalize lookR x.pl p f=LR at *;generalize procV x.pl p=pv at *;generalize checkV x.pl=cv at *;generalize numE x.pl p f=ne at *;generalize numV x.pl p f=nv at *;generalize tabAt x.pl p=T at *;unfold dVal at HC ⊢;obtain ⟨oa,oc,o,ta,tc,t⟩:=x;simp only at HC HD HR HOK HL hol HP;exact cm40):p:=h
end Axpx
open Axpx in
set_option maxHeartbeats 4000000 in
theorem lookupR_any (x:Dv) (p f:Int) (w:World) (h:DIn w x) (hz:DSz x):
 Calls Tryz.prog 43 #[dVal x,p,f] w (RetW (lookR x.pl p f) w):=by
 have HC:=Hd (fun W hb=>checkR_any' x W (h.below hb) hz.o hz.t);have HD:=Hd h.descs;have HR:=Hd h.rows;have HL:Hid (lookR x.pl p f=.tuple #[(numV x.pl p f),dnVal (if numE x.pl p f=0 then x.o.getD (numV x.pl p f).toNat Dn.zero else Dn.zero),(numE x.pl p f)]):=rfl;have hol:=hz.o;have HNZ:Hid (numE x.pl p f≠0→numV x.pl p f=0):=fun hh=>by unfold numV;rw [if_neg hh]
 have HP:Hid (procV x.pl p=if checkV x.pl=false then 1 else if p<0∨(x.t.length:Int)≤p then 2 else 0):=by unfold procV;rw [pl_t];rfl
 exact cm68
end Go.Proofs.YtimhaidiclbnhaaGreat.Des
