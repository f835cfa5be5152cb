import Derived.Test.YtimhaidiclbnhaaGreatP14
set_option linter.unusedSimpArgs false
set_option linter.unusedVariables false
set_option maxRecDepth 100000
open Go.ChangeShapes Go.WideShapes Go.ChangeAt Go.RowKit
namespace Go.Proofs.YtimhaidiclbnhaaGreat.Des
theorem num_ref {d:De} {p f:Int} (h:numE d p f=0):∃(k j q:Nat),p=(k:Int)∧f=(j:Int)∧k<d.t.length∧j<16∧q<d.o.length∧numV d p f=(q:Int)∧(d.t.getD k []).getD j 0=(q:Int)+1∧0<nref d.t q:=by
 obtain ⟨h1,h2,h3,h4,h5,q,h6,h7,h8⟩:=num_ok h;have hd:=check_rt h1;have e1:p=(p.toNat:Int):=b10;have e2:f=(f.toNat:Int):=b10;have hk:p.toNat<d.t.length:=b10;have h16:=hd.rows _ hk;have h9:(d.t.getD p.toNat []).getD f.toNat 0=(q:Int)+1:=h8;refine ⟨p.toNat,f.toNat,q,e1,e2,hk,by omega,h6,h7,h9,nref_mem.2 ?_⟩;rw [←h9];exact ent_mem hk b10
theorem bumpL_get (o:List Dn) (n:Nat) (k:Int) (i:Nat) (hn:n<o.length):(bumpL o n k).getD i Dn.zero=if i=n then bump (o.getD n Dn.zero) ((o.getD n Dn.zero).rf+k) else o.getD i Dn.zero:=by
 unfold bumpL;by_cases e:i=n
 ·rw [if_pos e,e,getD_set_self hn]
 ·rw [if_neg e,getD_set_ne (fun h=>e h.symm)]
theorem dup_ok {d:De} {p f:Int} (h:dupE d p f=0):numE d p f=0∧∃j:Nat,j<16∧fst zeroB (tabAt d p)=j∧(tabAt d p).getD j 0=0∧∀i,i<j→(tabAt d p).getD i 0≠0:=by
 unfold dupE at h;by_cases h1:numE d p f=0
 ·rw [if_neg b10] at h;obtain ⟨c1,c2,c3,_⟩:=num_ok h1;have h16:=(check_tab c1 p.toNat b10).1;rcases fst_cases zeroB (tabAt d p) 0 with ⟨hf,_⟩|⟨j,hf,hf2,hf3,hf4⟩
  ·rw [hf,if_pos b14] at h;cases h
  ·exact ⟨h1,j,by have:(tabAt d p).length=16:=h16;omega,hf,of_decide_eq_true hf3,fun i hi=>of_decide_eq_false (hf4 i hi)⟩
 ·rw [if_pos h1] at h;exact absurd h h1
theorem rt_more {d:De} {o':List Dn} {t':List (List Int)} (hd:Rt d) (hl:o'.length=d.o.length) (ht:t'.length=d.t.length) (hrow:∀p,p<d.t.length→(t'.getD p []).length=16) (hent:∀z,z∈t'.flatten→0≤z∧z≤(d.o.length:Int))
 (hsame:∀i,i<d.o.length→∃r,o'.getD i Dn.zero=bump (d.o.getD i Dn.zero) r) (hrf:∀i,i<d.o.length→(o'.getD i Dn.zero).rf=(nref t' i:Int)) (hge:∀i,i<d.o.length→nref d.t i≤nref t' i) (hz:∀i,i<d.o.length→nref d.t i=0→nref t' i=0):Rt ⟨o',t'⟩:=by
 refine ⟨by show 1≤t'.length;rw [ht];exact hd.t1,by show t'.length≤8;rw [ht];exact hd.t8,by show o'.length≤128;rw [hl];exact hd.o128,fun p hp=>hrow p (by rw [←ht];exact hp),fun z h=>by show 0≤z∧z≤(o'.length:Int);rw [hl];exact hent z h,fun i hi=>hrf i (by rw [←hl];exact hi),fun i hi h0=>?_,fun i hi h0=>?_,fun n hn=>?_⟩
 ·have hi':i<d.o.length:=by rw [←hl];exact hi
  have h0':nref t' i=0:=h0;have h1:nref d.t i=0:=by have:=hge i hi';omega
  obtain ⟨r,hr⟩:=hsame i hi';have h2:=hrf i hi';rw [hd.zero i hi' h1] at hr;rw [hr] at h2;have h3:r=0:=by have:r=(nref t' i:Int):=h2;omega
  rw [h3] at hr;exact hr
 ·have hi':i<d.o.length:=by rw [←hl];exact hi
  have h0':0<nref t' i:=h0;have h1:0<nref d.t i:=by
   rcases Nat.eq_zero_or_pos (nref d.t i) with h|h
   ·have:=hz i hi' h;omega
   ·exact h
  obtain ⟨r,hr⟩:=hsame i hi';show rightD (o'.getD i Dn.zero)=true;rw [hr];exact hd.pos i hi' h1
 ·have hn':d.o.length=n+1:=by rw [←hl];exact hn
  have:=hd.last n hn';have:=hge n b10;show 0<nref t' n;omega
theorem rt_dup {d:De} {p f:Int} (hd:Rt d):Rt (dupD d p f):=by
 unfold dupD;by_cases h:dupE d p f=0
 ·rw [if_pos h];obtain ⟨h1,j,hj,hjf,hj0,_⟩:=dup_ok h;obtain ⟨k,_,q,rfl,_,hk,_,hq,hv,_,hpos⟩:=num_ref h1;rw [hv,hjf,Int.toNat_natCast,Int.toNat_natCast,Int.toNat_natCast];have hrow:=hd.rows _ hk;have he:(d.t.getD k []).getD j 0=0:=hj0;have hn2:∀i,nref (setE d.t k j ((q:Int)+1)) i=nref d.t i+(if i=q then 1 else 0):=fun i=>by
   have:=nref_set d.t k j ((q:Int)+1) hk b10 i;rw [he,if_neg b10] at this;by_cases e:i=q
   ·rw [if_pos b10] at this ⊢;omega
   ·rw [if_neg b10] at this ⊢;omega
  refine rt_more hd (bumpL_len _ _ _) (setE_len _ _ _ _) (fun p hp=>by rw [setE_row];exact hd.rows p hp) (fun z hz=>?_) (fun i hi=>?_) (fun i hi=>?_) (fun i hi=>by rw [hn2];omega) (fun i hi h0=>?_)
  ·rcases setE_mem hk hz with hz|rfl
   ·exact hd.ent z hz
   ·omega
  ·rw [bumpL_get _ _ _ _ hq];by_cases e:i=q
   ·rw [if_pos e,e];exact ⟨_,rfl⟩
   ·rw [if_neg e];exact ⟨(d.o.getD i Dn.zero).rf,rfl⟩
  ·rw [bumpL_get _ _ _ _ hq,hn2];by_cases e:i=q
   ·rw [if_pos e,if_pos e,e];have:=hd.rf q hq;show (d.o.getD q Dn.zero).rf+1=_;omega
   ·rw [if_neg e,if_neg e];exact hd.rf i hi
  ·rw [hn2,h0];by_cases e:i=q
   ·rw [e] at h0;omega
   ·rw [if_neg e]
 ·rw [if_neg h];exact hd
theorem trim_spec (o:List Dn):∃m,m≤o.length∧trim o=o.take m∧(∀i,m≤i→i<o.length→(o.getD i Dn.zero).rf=0)∧(∀k,m=k+1→(o.getD k Dn.zero).rf≠0):=by
 generalize hn:o.length=n
 induction n generalizing o with
 |zero=>
  have h0:=List.length_eq_zero_iff.1 hn;subst h0;exact ⟨0,Nat.le_refl _,rfl,fun i _ h=>absurd h (Nat.not_lt_zero _),fun k h=>by cases h⟩
 |succ n ih=>
  have e:o=o.take n++[o.getD n Dn.zero]:=by
   have:=take_last o n b10;rw [List.take_of_length_le b10] at this;exact this
  have hl:(o.take n).length=n:=by rw [List.length_take];omega
  by_cases h:(o.getD n Dn.zero).rf=0
  ·obtain ⟨m,m1,m2,m3,m4⟩:=ih (o.take n) hl;have hg:∀i,i<n→(o.take n).getD i Dn.zero=o.getD i Dn.zero:=fun i hi=>by
    rw [getD_get b10,getD_get b10,List.getElem_take]
   refine ⟨m,by omega,?_,fun i hi hi2=>?_,fun k hk=>?_⟩
   ·have h1:=trim_drop (o.take n) _ h;rw [←e,m2,List.take_take,Nat.min_eq_left m1] at h1;exact h1
   ·by_cases hin:i=n
    ·rw [hin];exact h
    ·rw [←hg i b10];exact m3 i hi b10
   ·rw [←hg k b10];exact m4 k hk
  ·refine ⟨n+1,Nat.le_refl _,?_,fun i hi hi2=>by omega,fun k hk=>?_⟩
   ·have h1:=trim_keep (o.take n) _ h;rw [←e] at h1;rw [h1,List.take_of_length_le b10]
   ·cases hk;exact h
theorem rt_trim {o:List Dn} {t:List (List Int)} (ht1:1≤t.length) (ht8:t.length≤8) (ho:o.length≤128) (hrow:∀p,p<t.length→(t.getD p []).length=16) (hent:∀z,z∈t.flatten→0≤z∧z≤(o.length:Int))
 (hrf:∀i,i<o.length→(o.getD i Dn.zero).rf=(nref t i:Int)) (hz:∀i,i<o.length→nref t i=0→o.getD i Dn.zero=Dn.zero) (hpos:∀i,i<o.length→0<nref t i→rightD (o.getD i Dn.zero)=true):Rt ⟨trim o,t⟩:=by
 obtain ⟨m,m1,m2,m3,m4⟩:=trim_spec o;rw [m2];have hl:(o.take m).length=m:=by rw [List.length_take];omega
 have hg:∀i,i<m→(o.take m).getD i Dn.zero=o.getD i Dn.zero:=fun i hi=>by
  rw [getD_get b10,getD_get b10,List.getElem_take]
 refine ⟨ht1,ht8,by show (o.take m).length≤128;omega,hrow,fun z hz'=>?_,fun i hi=>?_,fun i hi h0=>?_,fun i hi h0=>?_,fun n hn=>?_⟩
 ·have h1:=hent z hz';refine ⟨h1.1,?_⟩;show z≤((o.take m).length:Int);rw [hl];by_cases hb:z≤(m:Int)
  ·exact hb
  ·exfalso
   have h2:0<nref t (z-1).toNat:=nref_mem.2 (by rw [show (((z-1).toNat:Nat):Int)+1=z by omega];exact hz');have h3:=hrf (z-1).toNat b10;rw [m3 (z-1).toNat b10 b10] at h3;omega
 ·show ((o.take m).getD i Dn.zero).rf=_;have hi':i<m:=by rw [←hl];exact hi
  rw [hg i hi'];exact hrf i b10
 ·show (o.take m).getD i Dn.zero=_;have hi':i<m:=by rw [←hl];exact hi
  rw [hg i hi'];exact hz i b10 h0
 ·show rightD ((o.take m).getD i Dn.zero)=true;have hi':i<m:=by rw [←hl];exact hi
  rw [hg i hi'];exact hpos i b10 h0
 ·show 0<nref t n;have hn':m=n+1:=by rw [←hl];exact hn
  have h1:=m4 n hn';have h2:=hrf n b10;omega
theorem rt_close {d:De} {p f:Int} (hd:Rt d):Rt (closeD d p f):=by
 unfold closeD;by_cases h:numE d p f=0
 ·rw [if_pos h];obtain ⟨k,j,q,rfl,rfl,hk,hj,hq,hv,he,hpos⟩:=num_ref h;rw [hv,Int.toNat_natCast,Int.toNat_natCast,Int.toNat_natCast];have hrow:=hd.rows _ hk;have hrq:=hd.rf q hq;have hn2:∀i,nref (setE d.t k j 0) i+(if i=q then 1 else 0)=nref d.t i:=fun i=>by
   have:=nref_set d.t k j 0 hk b10 i;rw [he,if_neg (by omega:¬((0:Int)=(i:Int)+1))] at this;by_cases e:i=q
   ·rw [if_pos b10] at this ⊢;omega
   ·rw [if_neg b10] at this ⊢;omega
  have hent:∀z,z∈(setE d.t k j 0).flatten→0≤z∧z≤(d.o.length:Int):=fun z hz=>by
   rcases setE_mem hk hz with hz|rfl
   ·exact hd.ent z hz
   ·omega
  by_cases hr:(d.o.getD q Dn.zero).rf-1≤0
  ·rw [if_pos hr];have hq0:nref (setE d.t k j 0) q=0:=by have:=hn2 q;rw [if_pos rfl] at this;omega
   have hgo:∀i,(d.o.set q Dn.zero).getD i Dn.zero=if i=q then Dn.zero else d.o.getD i Dn.zero:=fun i=>by
    by_cases e:i=q
    ·rw [if_pos e,e,getD_set_self hq]
    ·rw [if_neg e,getD_set_ne (fun h=>e h.symm)]
   have hne:∀i,i≠q→nref (setE d.t k j 0) i=nref d.t i:=fun i e=>by have:=hn2 i;rw [if_neg e] at this;omega
   refine rt_trim (by rw [setE_len];exact hd.t1) (by rw [setE_len];exact hd.t8) (by rw [List.length_set];exact hd.o128) (fun p hp=>by rw [setE_row];exact hd.rows p (by rw [←setE_len d.t k j 0];exact hp)) (by rw [List.length_set];exact hent) (fun i hi=>?_) (fun i hi h0=>?_) (fun i hi h0=>?_)
   ·rw [List.length_set] at hi;rw [hgo];by_cases e:i=q
    ·rw [if_pos e,e,hq0];rfl
    ·rw [if_neg e,hne i e];exact hd.rf i hi
   ·rw [List.length_set] at hi;rw [hgo];by_cases e:i=q
    ·rw [if_pos e]
    ·rw [if_neg e];rw [hne i e] at h0;exact hd.zero i hi h0
   ·rw [List.length_set] at hi;rw [hgo];by_cases e:i=q
    ·rw [e,hq0] at h0;omega
    ·rw [if_neg e];rw [hne i e] at h0;exact hd.pos i hi h0
  ·rw [if_neg hr];refine ⟨by show 1≤(setE _ _ _ _).length;rw [setE_len];exact hd.t1,by show (setE _ _ _ _).length≤8;rw [setE_len];exact hd.t8,by show (bumpL _ _ _).length≤128;rw [bumpL_len];exact hd.o128,fun p hp=>by show ((setE _ _ _ _).getD p []).length=16;rw [setE_row];exact hd.rows p (by rw [←setE_len d.t k j 0];exact hp),fun z hz=>by show 0≤z∧z≤((bumpL _ _ _).length:Int);rw [bumpL_len];exact hent z hz,fun i hi=>?_,fun i hi h0=>?_,fun i hi h0=>?_,fun n hn=>?_⟩
   ·have hi':i<d.o.length:=by rw [←bumpL_len d.o q (-1)];exact hi
    show ((bumpL _ _ _).getD i Dn.zero).rf=(nref (setE d.t k j 0) i:Int)
    rw [bumpL_get _ _ _ _ hq];have hn3:=hn2 i;by_cases e:i=q
    ·rw [if_pos e] at hn3 ⊢;rw [e] at hn3 ⊢;show (d.o.getD q Dn.zero).rf+-1=_;omega
    ·rw [if_neg e] at hn3 ⊢;have:=hd.rf i hi';omega
   ·have hi':i<d.o.length:=by rw [←bumpL_len d.o q (-1)];exact hi
    show (bumpL _ _ _).getD i Dn.zero=_;have h0':nref (setE d.t k j 0) i=0:=h0;have hn3:=hn2 i;rw [bumpL_get _ _ _ _ hq];by_cases e:i=q
    ·rw [if_pos e] at hn3;rw [e] at hn3 h0';omega
    ·rw [if_neg e] at hn3 ⊢;exact hd.zero i hi' b10
   ·have hi':i<d.o.length:=by rw [←bumpL_len d.o q (-1)];exact hi
    show rightD ((bumpL _ _ _).getD i Dn.zero)=true;have h0':0<nref (setE d.t k j 0) i:=h0;have hn3:=hn2 i;rw [bumpL_get _ _ _ _ hq];by_cases e:i=q
    ·rw [if_pos e];have:=hd.pos q hq hpos;exact this
    ·rw [if_neg e] at hn3 ⊢;exact hd.pos i hi' b10
   ·have hn':d.o.length=n+1:=by rw [←bumpL_len d.o q (-1)];exact hn
    show 0<nref (setE d.t k j 0) n;have h1:=hd.last n hn';have hn3:=hn2 n;by_cases e:n=q
    ·rw [if_pos e] at hn3;rw [e] at hn3 ⊢;omega
    ·rw [if_neg e] at hn3;omega
 ·rw [if_neg h];exact hd
theorem upd_ok {d:De} {n f c:Int} (h:updE d n f c=0):∃q:Nat,n=(q:Int)∧q<d.o.length∧(d.o.getD q Dn.zero).rf≠0∧movB f c=true:=by
 unfold updE at h;cases h1:checkV d
 ·rw [if_pos h1] at h;cases h
 ·rw [if_neg (by rw [h1];simp)] at h;by_cases h2:n<0∨(d.o.length:Int)≤n∨(d.o.getD n.toNat Dn.zero).rf=0
  ·rw [if_pos h2] at h;cases h
  ·rw [if_neg h2] at h;cases h3:movB f c
   ·rw [if_pos h3] at h;cases h
   ·exact ⟨n.toNat,by omega,by omega,fun e=>h2 (Or.inr (Or.inr e)),rfl⟩
theorem rt_upd {d:De} {n f c:Int} (hd:Rt d):Rt (updD d n f c):=by
 unfold updD;by_cases h:updE d n f c=0
 ·rw [if_pos h];obtain ⟨q,rfl,hq,hr,hm⟩:=upd_ok h;rw [Int.toNat_natCast];have hrq:=hd.rf q hq;have hg:∀i,(d.o.set q ⟨(d.o.getD q Dn.zero).fi,(d.o.getD q Dn.zero).fl,f,c,(d.o.getD q Dn.zero).rf⟩).getD i Dn.zero=if i=q then ⟨(d.o.getD q Dn.zero).fi,(d.o.getD q Dn.zero).fl,f,c,(d.o.getD q Dn.zero).rf⟩ else d.o.getD i Dn.zero:=fun i=>by
   by_cases e:i=q
   ·rw [if_pos e,e,getD_set_self hq]
   ·rw [if_neg e,getD_set_ne (fun h=>e h.symm)]
  refine ⟨hd.t1,hd.t8,by show (List.set _ _ _).length≤128;rw [List.length_set];exact hd.o128,hd.rows,fun z hz=>by show 0≤z∧z≤((List.set d.o _ _).length:Int);rw [List.length_set];exact hd.ent z hz,fun i hi=>?_,fun i hi h0=>?_,fun i hi h0=>?_,fun n hn=>?_⟩
  ·have hi':i<d.o.length:=by simpa using hi
   show ((List.set d.o _ _).getD i Dn.zero).rf=_;rw [hg];by_cases e:i=q
   ·rw [if_pos e,e];exact hrq
   ·rw [if_neg e];exact hd.rf i hi'
  ·have hi':i<d.o.length:=by simpa using hi
   have h0':nref d.t i=0:=h0;show (List.set d.o _ _).getD i Dn.zero=_;rw [hg];by_cases e:i=q
   ·rw [e] at h0';omega
   ·rw [if_neg e];exact hd.zero i hi' h0'
  ·have hi':i<d.o.length:=by simpa using hi
   have h0':0<nref d.t i:=h0;show rightD ((List.set d.o _ _).getD i Dn.zero)=true;rw [hg];by_cases e:i=q
   ·rw [if_pos e];rw [e] at h0';have:=hd.pos q hq h0';unfold rightD at this ⊢;rw [Bool.and_eq_true] at this;rw [this.1,hm];rfl
   ·rw [if_neg e];exact hd.pos i hi' h0'
  ·exact hd.last n (by simpa using hn)
 ·rw [if_neg h];exact hd
namespace Au1o
theorem km3 {p : Prop} (h:p:=by
 exact cm73):p:=h
theorem km26 {p : Prop} (h:p:=by
 by_cases hne:ne=0
 ·exact cm131
 ·have HOE2:Hid (oe=ne):=by have:=HOE.out;rw [if_pos hne] at this;exact this
  have HOF2:Hid (of=0):=by have:=HOF.out;rw [if_neg b83] at this;exact this
  have HOD2:Hid (od=x.pl):=by have:=HOD.out;rw [if_neg b83] at this;exact this
  exact cm98):p:=h
theorem km32 {p : Prop} (h:p:=by
 exact cm3):p:=h
theorem km52 {p : Prop} (h:p:=by
 have q1y:(k:Int)<(y.t.length:Int):=b10;clear hyt hyo hyT;go_upto_region 8 with (fail)
 rw [←hw6,←hO];clear hw6 hO;have hyT:=HYTT.out;have q3:=Q3.out;exact cm113):p:=h
theorem km58 {p : Prop} (h:p:=by
 exact cm95):p:=h
theorem km73 {p : Prop} (h:p:=by
 generalize lookV x.pl p f=lv at *;unfold dVal;obtain ⟨d0,d1,d2,d3,d4⟩:=lv;simp only at HLK;go_enter Tryz.func63,Tryz.ntmps63;exact cm26):p:=h
theorem km77 {p : Prop} (h:p:=by
 obtain ⟨r0,r1,r2,r3,r4⟩:=HR2.out.two;obtain ⟨hA5,hD5,hB5⟩:=ret_in HX.out HR2.out HB2.out (Nat.lt_succ_self _);have e0:=hA5.cell 0 _ rfl;have e1:=hA5.cell 1 _ rfl;have hpo:=HP.out x _ b36 hD5 hB5;rw [HOE2.out,HOF2.out] at hpo;have HPo:=Hd hpo;clear hA5 hD5 hB5 hpo;go_wp2_with fail;generalize ((w3.setCell (w 1 0) (.slice x.oa x.o.length x.oc)).setCell (w 1 1) (.slice x.ta x.t.length x.tc))=w9 at *;exact bodyPost_ret (v:=.tuple #[.agg #[.slice x.oa x.o.length x.oc,.slice x.ta x.t.length x.tc],I,(3:Int)]) b104 rfl HPo.out):p:=h
theorem km95 {p : Prop} (h:p:=by
 exact cm32):p:=h
theorem km98 {p : Prop} (h:p:=by
 rw [HOE2.out,HOF2.out] at hpo;have HPo:=Hd hpo;clear hA5 hD5 hB5 hpo;go_wp2_with fail;generalize ((w2.setCell (w 1 0) (.slice x.oa x.o.length x.oc)).setCell (w 1 1) (.slice x.ta x.t.length x.tc))=w9 at *;exact bodyPost_ret (v:=.tuple #[.agg #[.slice x.oa x.o.length x.oc,.slice x.ta x.t.length x.tc],I,ne]) b104 rfl HPo.out):p:=h
theorem km100 {p : Prop} (h:p:=by
 generalize (((w6.setCell (g3 (q*5+4)) (.int .i64 (rf+1))).setCell (g5 j) (.int .i64 ((q:Int)+1))).setCell (w 1 0) (.slice (some (g3 0)) y.o.length y.oc)).setCell (w 1 1) (.slice (some (g4 0)) y.t.length y.tc)=w9 at *;exact bodyPost_ret (v:=.tuple #[.agg #[.slice (some (g3 0)) y.o.length y.oc,.slice (some (g4 0)) y.t.length y.tc],j,I]) b104 rfl HPo.out):p:=h
theorem km112 {p : Prop} (h:p:=by
 clear hb;rcases fst_cases zeroB T 0 with ⟨hf,_⟩|⟨j,hf,hj,_,_⟩
 ·rw [hf] at HOE HOF HOD ⊢;have HOE2:Hid (oe=3):=by have:=HOE.out;rw [if_pos b14] at this;exact this
  exact cm77
 ·exact cm136):p:=h
theorem km113 {p : Prop} (h:p:=by
 exact cm132):p:=h
theorem km125 {p : Prop} (h:p:=by
 exact cm52):p:=h
theorem km131 {p : Prop} (h:p:=by
 go_wp2_with fail;have hfe:=HFE.out w2 k HB2.out b10 (by rw [←Q2.out];exact Q3.out);rw [←Q2.out] at hfe;refine hfe.mono ?_;clear hfe HFE;rintro e w3 ⟨rfl,hb⟩;exact cm112):p:=h
theorem km132 {p : Prop} (h:p:=by
 have HF8:=Hd (HFR.out.turn ((Below.refl (w.heap.size+2) w6).setCell (p:=(g3 (q*5+4))) b6 (.int .i64 ((y.o.getD q Dn.zero).rf+1))) (HFR.out.wk.putC b1 q hqy 4 b10 (.int .i64 ((y.o.getD q Dn.zero).rf+1)) (bump (y.o.getD q Dn.zero) ((y.o.getD q Dn.zero).rf+1)) rfl));have HF9:=Hd (HF8.out.turn ((Below.refl (w.heap.size+2) _).setCell (p:=(g5 j)) c10 (.int .i64 ((q:Int)+1))) (HF8.out.wk.putT k hkt c4 j ((q:Int)+1)));exact cm100):p:=h
theorem km136 {p : Prop} (h:p:=by
 rw [if_pos HOE2.out,Int.toNat_natCast,Int.toNat_natCast,Int.toNat_natCast] at hod2;have HOD2:=Hd hod2;have hj16:(j:Int)<16:=by have:=Q3.out;omega
 clear HOE HOF HOD hod2;go_wp2_with fail;refine (HC.out w3 HB2.out).mono ?_;exact cm125):p:=h
end Au1o
open Au1o in
set_option maxHeartbeats 8000000 in
theorem dupR_any (x:Dv) (p f:Int) (w:World) (h:DIn w x) (hz:DSz x):
 Calls Tryz.prog 63 #[dVal x,p,f] w (OutP w x (dupD x.pl p f) (fun v=>.tuple #[v,(dupF x.pl p f),(dupE x.pl p f)])):=by
 exact cm58
end Go.Proofs.YtimhaidiclbnhaaGreat.Des
namespace Go.Proofs.YtimhaidiclbnhaaGreat.Con
def truncV (s:ByteArray) (n:Int):ByteArray×Int:=if longB s=true then (s,1) else if badB n=true then (s,2) else (sizedS s n.toNat,0)
def writeV (s:ByteArray) (off:Int) (b:ByteArray):ByteArray×Int:=
 if longB s=true then (s,1) else if badB off=true∨128-off<(b.size:Int) then (s,2) else if b.size=0 then (s,0) else (putS s off.toNat b,0)
def punchV (s:ByteArray) (off n:Int):ByteArray×Int:=
 if longB s=true then (s,1) else if badB off=true∨n<0 then (s,2) else if min n ((s.size:Int)-off)≤0 then (s,0) else (putS s off.toNat (sizedS ⟨#[]⟩ (min n ((s.size:Int)-off)).toNat),0)
set_option maxHeartbeats 2000000 in
theorem trunc_any (s:ByteArray) (n:Int) (w:World) (hs:s.size≤maxLen):
 Calls Tryz.prog 100 #[.string s,n] w (RetW (.tuple #[.string (truncV s n).1,(truncV s n).2]) w):=by
 have HL:=Hd (fun w=>long_any s w hs);have HB:=Hd (bad_any n);cases hl:longB s with
 |true=>
  rw [hl] at HL;have HR:Hid (truncV s n=(s,1)):=by unfold Hid truncV;rw [if_pos hl]
  clear hl;go_enter Tryz.func100,Tryz.ntmps100;exact cl61
 |false=>
  rw [hl] at HL;have hl':¬longB s=true:=by rw [hl];simp
  have hsz:s.size≤128:=by rw [longB_iff] at hl';omega
  cases hb:badB n with
  |true=>
   rw [hb] at HB;have HR:Hid (truncV s n=(s,2)):=by unfold Hid truncV;rw [if_neg hl',if_pos hb]
   clear hl hl' hb;go_enter Tryz.func100,Tryz.ntmps100;exact cl21
  |false=>
   rw [hb] at HB;have hb':¬badB n=true:=by rw [hb];simp
   have hof:¬(n<0∨128<n):=by rw [←badB_iff];exact hb'
   obtain ⟨m,rfl⟩:=Int.eq_ofNat_of_zero_le (show 0≤n by omega);have e2:((m:Int)).toNat=m:=b10;have HR:Hid (truncV s (m:Int)=(sizedS s m,0)):=by unfold Hid truncV;rw [if_neg hl',if_neg hb',e2]
   have HZ:=Hd (fun w=>sized_any s m w b10 b10);clear hl hl' hb hb' hof e2;go_enter Tryz.func100,Tryz.ntmps100;go_wp2_with (first|(go_at_call 124;refine (HL.out _).mono ?_;rintro e w' ⟨rfl,rfl⟩)|(go_at_call 125;refine (HB.out _).mono ?_;rintro e w' ⟨rfl,rfl⟩)|(go_at_call 129;refine (HZ.out _).mono ?_;rintro e w' ⟨rfl,hbw⟩))
   go_ret2;rw [HR.out];exact ⟨rfl,hbw⟩
set_option maxHeartbeats 4000000 in
theorem write_any (s:ByteArray) (off:Int) (b:ByteArray) (w:World) (hs:s.size≤maxLen) (hbm:b.size≤maxLen):
 Calls Tryz.prog 95 #[.string s,off,.string b] w (RetW (.tuple #[.string (writeV s off b).1,(writeV s off b).2]) w):=by
 have HL:=Hd (fun w=>long_any s w hs);have HB:=Hd (bad_any off);unfold maxLen at hbm;cases hl:longB s with
 |true=>
  rw [hl] at HL;have HR:Hid (writeV s off b=(s,1)):=by unfold Hid writeV;rw [if_pos hl]
  clear hl;go_enter Tryz.func95,Tryz.ntmps95;exact cl61
 |false=>
  rw [hl] at HL;have hl':¬longB s=true:=by rw [hl];simp
  have hsz:s.size≤128:=by rw [longB_iff] at hl';omega
  cases hb:badB off with
  |true=>
   rw [hb] at HB;have HR:Hid (writeV s off b=(s,2)):=by unfold Hid writeV;rw [if_neg hl',if_pos (Or.inl hb)]
   clear hl hl' hb;go_enter Tryz.func95,Tryz.ntmps95;exact cl21
  |false=>
   rw [hb] at HB;have hb':¬badB off=true:=by rw [hb];simp
   have hof:¬(off<0∨128<off):=by rw [←badB_iff];exact hb'
   obtain ⟨o,rfl⟩:=Int.eq_ofNat_of_zero_le (show 0≤off by omega);have ho:o≤128:=b10;by_cases hbig:128-(o:Int)<(b.size:Int)
   ·have HR:Hid (writeV s (o:Int) b=(s,2)):=by unfold Hid writeV;rw [if_neg hl',if_pos (Or.inr hbig)]
    clear hl hl' hb hb' hof;go_enter Tryz.func95,Tryz.ntmps95;exact cl21
   ·have hbig2:(b.size:Int)≤128-(o:Int):=b10;have hno:¬(badB (o:Int)=true∨128-(o:Int)<(b.size:Int)):=fun h=>h.elim hb' hbig;by_cases hz:b.size=0
    ·have HR:Hid (writeV s (o:Int) b=(s,0)):=by unfold Hid writeV;rw [if_neg hl',if_neg hno,if_pos hz]
     have hbe:b=⟨#[]⟩:=ByteArray.ext (Array.eq_empty_of_size_eq_zero hz);subst hbe;clear hl hl' hb hb' hof hno;go_enter Tryz.func95,Tryz.ntmps95;exact cl21
    ·have e1:((o:Int)).toNat=o:=b10;have HR:Hid (writeV s (o:Int) b=(putS s o b,0)):=by unfold Hid writeV;rw [if_neg hl',if_neg hno,if_neg hz,e1]
     have HZ:=Hd (fun w=>put_any s o b w b10 b10 b10);have hne:b.toList.isEmpty=false:=by
      have:b.toList.length=b.size:=by rw [ByteArray.toList_eq];exact Array.length_toList
      cases h:b.toList with
      |nil=>rw [h] at this;simp at this;omega
      |cons x r=>rfl
     clear hl hl' hb hb' hof hno e1 hz;go_enter Tryz.func95,Tryz.ntmps95;go_wp2_with (first|(go_at_call 124;refine (HL.out _).mono ?_;rintro e w' ⟨rfl,rfl⟩)|(go_at_call 125;refine (HB.out _).mono ?_;rintro e w' ⟨rfl,rfl⟩)|(go_at_call 126;refine (HZ.out _).mono ?_;rintro e w' ⟨rfl,hbw⟩))
     go_ret2;rw [HR.out];exact ⟨rfl,hbw⟩
set_option maxHeartbeats 4000000 in
theorem punch_any (s:ByteArray) (off n:Int) (w:World) (hs:s.size≤maxLen):
 Calls Tryz.prog 102 #[.string s,off,n] w (RetW (.tuple #[.string (punchV s off n).1,(punchV s off n).2]) w):=by
 have HL:=Hd (fun w=>long_any s w hs);have HB:=Hd (bad_any off);cases hl:longB s with
 |true=>
  rw [hl] at HL;have HR:Hid (punchV s off n=(s,1)):=by unfold Hid punchV;rw [if_pos hl]
  clear hl;go_enter Tryz.func102,Tryz.ntmps102;exact cl61
 |false=>
  rw [hl] at HL;have hl':¬longB s=true:=by rw [hl];simp
  have hsz:s.size≤128:=by rw [longB_iff] at hl';omega
  cases hb:badB off with
  |true=>
   rw [hb] at HB;have HR:Hid (punchV s off n=(s,2)):=by unfold Hid punchV;rw [if_neg hl',if_pos (Or.inl hb)]
   clear hl hl' hb;go_enter Tryz.func102,Tryz.ntmps102;exact cl21
  |false=>
   rw [hb] at HB;have hb':¬badB off=true:=by rw [hb];simp
   have hof:¬(off<0∨128<off):=by rw [←badB_iff];exact hb'
   obtain ⟨o,rfl⟩:=Int.eq_ofNat_of_zero_le (show 0≤off by omega);have ho:o≤128:=b10;by_cases hn:n<0
   ·have HR:Hid (punchV s (o:Int) n=(s,2)):=by unfold Hid punchV;rw [if_neg hl',if_pos (Or.inr hn)]
    clear hl hl' hb hb' hof;go_enter Tryz.func102,Tryz.ntmps102;exact cl21
   ·have hno:¬(badB (o:Int)=true∨n<0):=fun h=>h.elim hb' hn;have hn2:0≤n:=b10;by_cases hz:min n ((s.size:Int)-(o:Int))≤0
    ·have HR:Hid (punchV s (o:Int) n=(s,0)):=by unfold Hid punchV;rw [if_neg hl',if_neg hno,if_pos hz]
     clear hl hl' hb hb' hof hno hn;go_enter Tryz.func102,Tryz.ntmps102;exact cl21
    ·have e1:((o:Int)).toNat=o:=b10;obtain ⟨r,hr⟩:=Int.eq_ofNat_of_zero_le (show 0≤min n ((s.size:Int)-(o:Int)) by omega);have hr2:(min n ((s.size:Int)-(o:Int))).toNat=r:=b10;have HR:Hid (punchV s (o:Int) n=(putS s o (sizedS ⟨#[]⟩ r),0)):=by unfold Hid punchV;rw [if_neg hl',if_neg hno,if_neg hz,e1,hr2]
     have hrl:(r:Int)≤128:=b10;have hrp:(0:Int)<(r:Int):=b10;have hz0:(⟨#[]⟩:ByteArray).size=0:=rfl;have hzs:(sizedS ⟨#[]⟩ r).size=r:=sizedS_size _ _;have HY:=Hd (fun w=>sized_any ⟨#[]⟩ r w (by rw [hz0];omega) b10);have HZ:=Hd (fun w=>put_any s o (sizedS ⟨#[]⟩ r) w b10 b10 b10);generalize sizedS ⟨#[]⟩ r=zz at *;clear hl hl' hb hb' hof hno hn e1 hz hr2 hz0 hzs;go_enter Tryz.func102,Tryz.ntmps102;go_wp2_with (first|(go_at_call 124;refine (HL.out _).mono ?_;rintro e w' ⟨rfl,rfl⟩)|(go_at_call 125;refine (HB.out _).mono ?_;rintro e w' ⟨rfl,rfl⟩)|(go_at_call 129;refine (HY.out _).mono ?_;rintro e w1 ⟨rfl,hb1⟩)|(go_at_call 126;refine (HZ.out _).mono ?_;rintro e w2 ⟨rfl,hb2⟩))
     go_ret2;rw [HR.out];exact ⟨rfl,hb1.trans (hb2.mono hb1.size)⟩
theorem byte_any (s:ByteArray) (i:Int) (w:World) (hs:s.size≤maxLen):Calls Tryz.prog 28 #[.string s,i] w fun e w'=>e=.returned (.int .u8 (if i<0 then 0 else ((s.data.toList.getD i.toNat 0).toNat:Int)))∧w=w':=by
 unfold maxLen at hs;by_cases h0:i<0
 ·rw [if_pos h0];go_enter Tryz.func28,Tryz.ntmps28;go_wp2_with fail;go_ret;exact ⟨rfl,rfl⟩
 ·rw [if_neg h0];obtain ⟨k,rfl⟩:=Int.eq_ofNat_of_zero_le (show 0≤i by omega);have e1:((k:Int)).toNat=k:=b10;rw [e1];have hl:s.data.toList.length=s.size:=Array.length_toList;by_cases h1:k<s.size
  ·have he:Hid ((s[k].toNat:Int)=((s.data.toList.getD k 0).toNat:Int)):=by
    unfold Hid;simp [List.getD,List.getElem?_eq_getElem (show k<s.data.toList.length by omega),ByteArray.getElem_eq_getElem_data]
   generalize ((s.data.toList.getD k 0).toNat:Int)=v at *;clear hl e1;go_enter Tryz.func28,Tryz.ntmps28;go_wp2_with fail;go_ret;exact ⟨by rw [←he.out];rfl,rfl⟩
  ·have he:(s.data.toList.getD k 0)=0:=by simp [List.getD,List.getElem?_eq_none (show s.data.toList.length≤k by omega)]
   rw [he];have h2:(s.size:Int)≤(k:Int):=b10;clear hl e1 he;go_enter Tryz.func28,Tryz.ntmps28;go_wp2_with fail;go_ret;exact ⟨rfl,rfl⟩
end Go.Proofs.YtimhaidiclbnhaaGreat.Con
namespace Go.Proofs.YtimhaidiclbnhaaGreat.Ara
def Free (l:List Ar) (s n:Int):Prop:=∀x∈l,¬(x.st<s+n∧s<x.st+x.cn)
theorem within_num {s c m:Int} (h:withinB s c m=true):0≤s∧1≤c∧s+c≤m:=by
 unfold withinB at h;have:=of_decide_eq_true h;omega
theorem within_of {s c m:Int} (h0:0≤s) (h1:1≤c) (h2:s+c≤m):withinB s c m=true:=by
 unfold withinB;exact decide_eq_true b10
theorem good_lt {l:List Ar} (h:Good l) {i j:Nat} (hij:i<j) (hj:j<l.length):(l.getD i Ar.zero).st+(l.getD i Ar.zero).cn≤(l.getD j Ar.zero).st:=by
 rw [getD_get hj,getD_get (by omega:i<l.length)];exact List.pairwise_iff_getElem.1 h.pw i j b10 hj hij
theorem room_free {l:List Ar} {n p:Int} (h:checkV l=true) (hr:roomV l n=(p,true)):0≤p∧1≤n∧p+n≤64∧Free l p n:=by
 have hg:=good_of_check h;unfold roomV at hr;split at hr
 ·rename_i hc;simp only [Prod.mk.injEq,and_true] at hr;have hw:=within_num hc.2;rw [hr] at hw;refine ⟨hw.1,hw.2.1,hw.2.2,fun x hx=>?_⟩;obtain ⟨j,hj,rfl⟩:=List.mem_iff_getElem.1 hx;have hrx:=right_num (hg.right _ (List.getElem_mem hj))
  --everything ahead of the place ends by p,everything behind begins behind p+n
  have hk:roomK l n=l.length∨(roomK l n<l.length∧fitAt l n (roomK l n)=true):=by
   unfold roomK;cases hf:(List.range l.length).find? (fitAt l n) with
   |none=>exact Or.inl rfl
   |some k=>exact Or.inr ⟨List.mem_range.1 (List.mem_of_find?_eq_some hf),List.find?_some hf⟩
  have hahead:j<roomK l n→l[j].st+l[j].cn≤p:=by
   intro hjk;rw [←hr];unfold lastAt;rw [if_neg b10];by_cases he:j=roomK l n-1
   ·rw [←he,getD_get hj];omega
   ·have hkl:roomK l n≤l.length:=by rcases hk with h|h<;>omega
    have h1:=good_lt hg (i:=j) (j:=roomK l n-1) b10 b10;have h2:=right_num (hg.right _ (List.getElem_mem (show roomK l n-1<l.length from by omega)));rw [getD_get hj] at h1;rw [getD_get (by omega:roomK l n-1<l.length)] at h1 ⊢;omega
  by_cases hjk:j<roomK l n
  ·have:=hahead hjk;omega
  ·rcases hk with hk|⟨hk,hfit⟩
   ·omega
   ·unfold fitAt at hfit;have hfit:=of_decide_eq_true hfit;rw [hr] at hfit;by_cases he:j=roomK l n
    ·rw [←he,getD_get hj] at hfit;omega
    ·have h1:=good_lt hg (i:=roomK l n) (j:=j) b10 hj;have h2:=right_num (hg.right _ (List.getElem_mem hk));rw [getD_get hj] at h1;rw [getD_get hk] at h1 hfit;omega
 ·simp at hr
theorem map_free {l:List Ar} {a:Ar} (h:checkV l=true) (ha:rightB a=true) (hf:Free l a.st a.cn):mapV l a=if l.length=8 then (l,3) else (insS a l,0):=by
 unfold mapV;rw [if_neg (by rw [h];simp),if_neg (by rw [ha];simp),if_neg (by rw [hit_of hf];simp),insAt_eq (good_of_check h) ha hf]
theorem part_iff {x y:Ar} {u v:Int}:partV x u v=some y↔max u x.st<min v (x.st+x.cn)∧y=⟨max u x.st,min v (x.st+x.cn)-max u x.st,x.fi,x.pg+(max u x.st-x.st),x.wr⟩:=by
 unfold partV;split
 ·rename_i h;constructor
  ·intro h;cases h
  ·intro h2;omega
 ·rename_i h;constructor
  ·intro h2;cases h2;exact ⟨by omega,rfl⟩
  ·rintro ⟨_,rfl⟩;rfl
theorem mem_out {l:List Ar} {s n:Int} {y:Ar}:y∈outTo l s n l.length↔∃x∈l,partV x 0 s=some y∨partV x (s+n) 64=some y:=by
 unfold outTo partsOf;rw [List.take_length,List.mem_flatMap];simp only [List.mem_append,Option.mem_toList]
theorem unmap_ok {l:List Ar} {s n:Int} (h:checkV l=true) (hw:withinB s n 64=true):unmapV l s n=if 8<(outTo l s n l.length).length then (l,3) else (outTo l s n l.length,0):=by
 unfold unmapV;rw [if_neg (by rw [h];simp),if_neg (by rw [hw];simp)]
end Go.Proofs.YtimhaidiclbnhaaGreat.Ara
