import Derived.Test.YtimhaidiclbnhaaGreatP12
import Derived.Test.YtimhaidiclbnhaaGreatP13
set_option linter.unusedSimpArgs false
set_option linter.unusedVariables false
set_option maxRecDepth 100000
open Go.ChangeShapes Go.WideShapes Go.ChangeAt Go.RowKit
namespace Go.Proofs.YtimhaidiclbnhaaGreat.Des
def nref (t:List (List Int)) (i:Nat):Nat:=t.flatten.count ((i:Int)+1)
structure Rt (d:De):Prop where
 t1:1≤d.t.length
 t8:d.t.length≤8
 o128:d.o.length≤128
 rows:∀p,p<d.t.length→(d.t.getD p []).length=16
 ent:∀z,z∈d.t.flatten→0≤z∧z≤(d.o.length:Int)
 rf:∀i,i<d.o.length→(d.o.getD i Dn.zero).rf=(nref d.t i:Int)
 zero:∀i,i<d.o.length→nref d.t i=0→d.o.getD i Dn.zero=Dn.zero
 pos:∀i,i<d.o.length→0<nref d.t i→rightD (d.o.getD i Dn.zero)=true
 last:∀n,d.o.length=n+1→0<nref d.t n
theorem refC_get (d:De) (i:Nat) (hi:i<d.o.length):(refC d).getD i 0=(nref d.t i:Int):=cnt_get _ _ _ hi
theorem check_rt {d:De} (h:checkV d=true):Rt d:=by
 have hl:=check_len h;have ht:=check_tab h;unfold checkV at h;rw [Bool.and_eq_true,Bool.and_eq_true] at h;obtain ⟨⟨h1,_⟩,h3⟩:=h;have hit:∀i,i<d.o.length→(d.o.getD i Dn.zero).rf=(nref d.t i:Int)∧(nref d.t i=0→d.o.getD i Dn.zero=Dn.zero∧i+1≠d.o.length)∧(0<nref d.t i→rightD (d.o.getD i Dn.zero)=true):=fun i hi=>by
  have:=List.all_eq_true.1 h3 i (List.mem_range.2 hi);rw [refC_get d i hi] at this;unfold itemB at this;rw [Bool.and_eq_true] at this;obtain ⟨a1,a2⟩:=this;refine ⟨of_decide_eq_true a1,fun h0=>?_,fun h0=>?_⟩
  ·rw [if_pos b10,Bool.and_eq_true] at a2;refine ⟨of_decide_eq_true a2.1,fun e=>?_⟩;rw [decide_eq_true e] at a2;exact absurd a2.2 b14
  ·rwa [if_neg b10] at a2
 refine ⟨hl.1,hl.2.1,hl.2.2,fun p hp=>(ht p hp).1,fun z hz=>?_,fun i hi=>(hit i hi).1,fun i hi h0=>((hit i hi).2.1 h0).1,fun i hi=>(hit i hi).2.2,fun n hn=>?_⟩
 ·obtain ⟨l,hl,hz⟩:=List.mem_flatten.1 hz;have:=List.all_eq_true.1 h1 l hl;unfold tabB at this;rw [Bool.and_eq_true] at this;exact of_decide_eq_true (List.all_eq_true.1 this.2 z hz)
 ·rcases Nat.eq_zero_or_pos (nref d.t n) with h0|h0
  ·exact absurd hn.symm (((hit n b10).2.1 h0).2)
  ·exact h0
theorem rt_check {d:De} (h:Rt d):checkV d=true:=by
 unfold checkV;rw [Bool.and_eq_true,Bool.and_eq_true];refine ⟨⟨?_,decide_eq_true ⟨h.t1,h.t8,h.o128⟩⟩,?_⟩
 ·refine List.all_eq_true.2 fun l hl=>?_
  obtain ⟨p,hp,rfl⟩:=List.getElem_of_mem hl;have h16:=h.rows p hp;rw [getD_get hp] at h16;unfold tabB;rw [Bool.and_eq_true];exact ⟨decide_eq_true h16,List.all_eq_true.2 fun z hz=>decide_eq_true (h.ent z (List.mem_flatten.2 ⟨_,hl,hz⟩))⟩
 ·refine List.all_eq_true.2 fun i hi=>?_
  have hi:=List.mem_range.1 hi;rw [refC_get d i hi];unfold itemB;rw [Bool.and_eq_true];refine ⟨decide_eq_true (h.rf i hi),?_⟩;rcases Nat.eq_zero_or_pos (nref d.t i) with h0|h0
  ·rw [if_pos b10,h.zero i hi h0,Bool.and_eq_true];refine ⟨by simp,?_⟩;have:i+1≠d.o.length:=fun e=>by have:=h.last i e.symm;omega
   rw [decide_eq_false this];rfl
  ·rw [if_neg b10];exact h.pos i hi h0
theorem count_set (l:List Int) (f:Nat) (z v:Int) (hf:f<l.length):(l.set f z).count v+(if l.getD f 0=v then 1 else 0)=l.count v+(if z=v then 1 else 0):=by
 induction l generalizing f with
 |nil=>simp at hf
 |cons a r ih=>
  cases f with
  |zero=>
   simp only [List.set_cons_zero,List.count_cons,List.getD_cons_zero,beq_iff_eq];omega
  |succ f=>
   have:=ih f (by simpa using hf);simp only [List.set_cons_succ,List.count_cons,List.getD_cons_succ,beq_iff_eq] at *;omega
theorem flat_set (t:List (List Int)) (p:Nat) (l:List Int) (v:Int) (hp:p<t.length):(t.set p l).flatten.count v+(t.getD p []).count v=t.flatten.count v+l.count v:=by
 induction t generalizing p with
 |nil=>simp at hp
 |cons a r ih=>
  cases p with
  |zero=>simp only [List.set_cons_zero,List.flatten_cons,List.count_append,List.getD_cons_zero];omega
  |succ p=>
   have:=ih p (by simpa using hp);simp only [List.set_cons_succ,List.flatten_cons,List.count_append,List.getD_cons_succ] at *;omega
theorem nref_set (t:List (List Int)) (p f:Nat) (z:Int) (hp:p<t.length) (hf:f<(t.getD p []).length) (i:Nat):
 nref (setE t p f z) i+(if (t.getD p []).getD f 0=(i:Int)+1 then 1 else 0)=nref t i+(if z=(i:Int)+1 then 1 else 0):=by
 have h1:=flat_set t p ((t.getD p []).set f z) ((i:Int)+1) hp;have h2:=count_set (t.getD p []) f z ((i:Int)+1) hf;unfold nref setE;omega
theorem setE_len (t:List (List Int)) (p f:Nat) (z:Int):(setE t p f z).length=t.length:=by simp [setE]
theorem setE_row (t:List (List Int)) (p f:Nat) (z:Int) (q:Nat):((setE t p f z).getD q []).length=(t.getD q []).length:=by
 unfold setE;by_cases h:p=q
 ·subst h;by_cases hp:p<t.length
  ·rw [getD_set_self hp,List.length_set]
  ·rw [List.set_eq_of_length_le b10]
 ·rw [getD_set_ne h]
theorem mem_set {α:Type} {l:List α} {i:Nat} {x y:α} (h:y∈l.set i x):y∈l∨y=x:=by
 obtain ⟨k,hk,rfl⟩:=List.getElem_of_mem h;rw [List.getElem_set];split
 ·exact Or.inr rfl
 ·exact Or.inl (List.getElem_mem _)
theorem setE_mem {t:List (List Int)} {p f:Nat} {z y:Int} (hp:p<t.length) (h:y∈(setE t p f z).flatten):y∈t.flatten∨y=z:=by
 obtain ⟨l,hl,hy⟩:=List.mem_flatten.1 h;unfold setE at hl;rcases mem_set hl with hl|rfl
 ·exact Or.inl (List.mem_flatten.2 ⟨l,hl,hy⟩)
 ·rcases mem_set hy with hy|rfl
  ·rw [getD_get hp] at hy;exact Or.inl (List.mem_flatten.2 ⟨_,List.getElem_mem hp,hy⟩)
  ·exact Or.inr rfl
theorem nref_mem {t:List (List Int)} {i:Nat}:0<nref t i↔((i:Int)+1)∈t.flatten:=List.count_pos_iff
theorem nref_big {d:De} (h:Rt d) (i:Nat) (hi:d.o.length≤i):nref d.t i=0:=by
 rcases Nat.eq_zero_or_pos (nref d.t i) with h0|h0
 ·exact h0
 ·have:=h.ent _ (nref_mem.1 h0);omega
theorem ent_mem {t:List (List Int)} {p f:Nat} (hp:p<t.length) (hf:f<(t.getD p []).length):(t.getD p []).getD f 0∈t.flatten:=by
 refine List.mem_flatten.2 ⟨t.getD p [],?_,?_⟩
 ·rw [getD_get hp];exact List.getElem_mem hp
 ·rw [getD_get hf];exact List.getElem_mem hf
theorem pig (m:Nat):∀(L:List Int),(∀k:Nat,k≤m→(k:Int)∈L)→m+1≤L.length:=by
 induction m with
 |zero=>
  intro L h;have:=h 0 Nr;cases L with
  |nil=>cases this
  |cons a r=>simp
 |succ m ih=>
  intro L h;have hm:=h (m+1) Nr;have h1:=ih (L.erase ((m+1:Nat):Int)) (fun k hk=>(List.mem_erase_of_ne b10).2 (h k b10));rw [List.length_erase_of_mem hm] at h1;have:0<L.length:=List.length_pos_of_mem hm;omega
theorem flat_len {t:List (List Int)} (h:∀p,p<t.length→(t.getD p []).length=16):t.flatten.length=16*t.length:=by
 induction t with
 |nil=>rfl
 |cons a r ih=>
  have h0:=h 0 b11;have h1:=ih (fun p hp=>h (p+1) (by simpa using hp));rw [List.flatten_cons,List.length_append,h1,List.length_cons];simp only [List.getD_cons_zero] at h0;omega
theorem rt_new {p:Int} (h:newE p=0):Rt (newD p):=by
 have hp:1≤p∧p≤8:=by
  unfold newE at h;by_cases hp:1≤p∧p≤8
  ·exact hp
  ·rw [if_neg hp] at h;cases h
 have hd:newD p=⟨[],List.replicate p.toNat (List.replicate 16 0)⟩:=by unfold newD;rw [if_pos hp]
 rw [hd];have hz:∀z,z∈(List.replicate p.toNat (List.replicate 16 (0:Int))).flatten→z=0:=fun z hz=>by
  obtain ⟨l,hl,hz⟩:=List.mem_flatten.1 hz;rw [List.eq_of_mem_replicate hl] at hz;exact List.eq_of_mem_replicate hz
 refine ⟨by show 1≤(List.replicate _ _).length;rw [List.length_replicate];omega,by show (List.replicate _ _).length≤8;rw [List.length_replicate];omega,by show (0:Nat)≤128;omega,fun q hq=>?_,fun z h1=>?_,fun i hi=>absurd hi (Nat.not_lt_zero _),fun i hi=>absurd hi (Nat.not_lt_zero _),fun i hi=>absurd hi (Nat.not_lt_zero _),fun n hn=>by cases hn⟩
 ·show ((List.replicate _ _).getD q []).length=16;rw [getD_get hq,List.getElem_replicate,List.length_replicate]
 ·rw [hz z h1];exact ⟨Int.le_refl _,Int.le_refl _⟩
theorem open_ok {d:De} {p fi fl c:Int} (h:openE d p fi fl c=0):checkV d=true∧0≤p∧p<(d.t.length:Int)∧fixB fi fl=true∧curB c=true∧∃f:Nat,f<16∧fst zeroB (tabAt d p)=f∧(tabAt d p).getD f 0=0∧∀j,j<f→(tabAt d p).getD j 0≠0:=by
 unfold openE at h;by_cases h1:procV d p=0
 ·rw [if_neg b10] at h;obtain ⟨c1,c2,c3⟩:=procV_ok h1;cases hb:(fixB fi fl&&curB c)
  ·rw [hb,if_pos rfl] at h;cases h
  ·rw [hb,if_neg b11] at h;rw [Bool.and_eq_true] at hb;have h16:=(check_tab c1 p.toNat b10).1;rcases fst_cases zeroB (tabAt d p) 0 with ⟨hf,_⟩|⟨f,hf,hf2,hf3,hf4⟩
   ·rw [hf,if_pos b14] at h;cases h
   ·refine ⟨c1,c2,c3,hb.1,hb.2,f,by have:(tabAt d p).length=16:=h16;omega,hf,of_decide_eq_true hf3,fun j hj=>of_decide_eq_false (hf4 j hj)⟩
 ·rw [if_pos h1] at h;exact absurd h h1
theorem slot_cases (o:List Dn):(fst noneB o=-1∧slotN o=o.length∧∀j,j<o.length→o.getD j Dn.zero≠Dn.zero)∨(slotN o<o.length∧fst noneB o=slotN o∧o.getD (slotN o) Dn.zero=Dn.zero):=by
 rcases fst_cases noneB o Dn.zero with ⟨h,h2⟩|⟨k,h,h2,h3,_⟩
 ·exact Or.inl ⟨h,by unfold slotN;rw [h,if_pos b14],fun j hj=>of_decide_eq_false (h2 j hj)⟩
 ·have e:slotN o=k:=by unfold slotN;rw [h,if_neg b10,Int.toNat_natCast]
  rw [e];exact Or.inr ⟨h2,h,of_decide_eq_true h3⟩
theorem getD_append {α:Type} (l:List α) (x d:α) (i:Nat):(l++[x]).getD i d=if i<l.length then l.getD i d else if i=l.length then x else d:=by
 by_cases h:i<l.length
 ·rw [if_pos h,getD_get h,getD_get b16,List.getElem_append_left h]
 ·rw [if_neg h];by_cases h2:i=l.length
  ·rw [if_pos h2];subst h2;rw [getD_get b11];simp
  ·rw [if_neg h2];simp [List.getD,List.getElem?_eq_none (show (l++[x]).length≤i by simp;omega)]
theorem putD_get (o:List Dn) (x:Dn) (i:Nat):(putD o x).getD i Dn.zero=if i=slotN o then x else o.getD i Dn.zero:=by
 unfold putD;rcases slot_cases o with ⟨h,h2,_⟩|⟨h,h2,_⟩
 ·rw [if_pos (by rw [h];decide),getD_append,h2];by_cases e:i=o.length
  ·rw [if_neg b10,if_pos e,if_pos e]
  ·by_cases e2:i<o.length
   ·rw [if_pos e2,if_neg e]
   ·rw [if_neg e2,if_neg e,if_neg e];simp [List.getD,List.getElem?_eq_none (Nat.le_of_not_lt e2)]
 ·rw [h2,if_neg b10,Int.toNat_natCast];by_cases e:i=slotN o
  ·rw [if_pos e,e,getD_set_self h]
  ·rw [if_neg e,getD_set_ne (fun h=>e h.symm)]
theorem putD_len (o:List Dn) (x:Dn):(putD o x).length=if slotN o=o.length then o.length+1 else o.length:=by
 unfold putD;rcases slot_cases o with ⟨h,h2,_⟩|⟨h,h2,_⟩
 ·rw [if_pos (by rw [h];decide),if_pos h2,List.length_append];rfl
 ·rw [h2,if_neg b10,if_neg b10,List.length_set]
theorem rt_open {d:De} {p fi fl c:Int} (hd:Rt d):Rt (openD d p fi fl c):=by
 unfold openD;by_cases h:openE d p fi fl c=0
 ·rw [if_pos h];obtain ⟨_,c2,c3,b1,b2,f,hf,hff,hf0,_⟩:=open_ok h;rw [hff,Int.toNat_natCast];have hp:p.toNat<d.t.length:=b10;have hrow:=hd.rows _ hp;have hn:=fun i=>nref_set d.t p.toNat f ((slotN d.o:Int)+1) hp b10 i;have he:(d.t.getD p.toNat []).getD f 0=0:=hf0;have hn2:∀i,nref (setE d.t p.toNat f ((slotN d.o:Int)+1)) i=nref d.t i+(if i=slotN d.o then 1 else 0):=fun i=>by
   have:=hn i;rw [he,if_neg b10] at this;by_cases e:i=slotN d.o
   ·rw [if_pos b10] at this ⊢;omega
   ·rw [if_neg b10] at this ⊢;omega
  have hslot:nref d.t (slotN d.o)=0:=by
   rcases slot_cases d.o with ⟨_,h2,_⟩|⟨h1,_,h3⟩
   ·exact nref_big hd _ b10
   ·have:=hd.rf _ h1;rw [h3] at this;have h0:(0:Int)=(nref d.t (slotN d.o):Int):=this;omega
  have hle:slotN d.o≤d.o.length:=by rcases slot_cases d.o with ⟨_,h2,_⟩|⟨h1,_,_⟩<;>omega
  have hlen:d.o.length≤(putD d.o ⟨fi,fl,0,c,1⟩).length∧slotN d.o<(putD d.o ⟨fi,fl,0,c,1⟩).length:=by
   rw [putD_len];split<;>omega
  have hlen2:∀i,i<(putD d.o ⟨fi,fl,0,c,1⟩).length→i≠slotN d.o→i<d.o.length:=fun i hi hne=>by
   rw [putD_len] at hi;split at hi<;>omega
  refine ⟨by rw [show (De.t ⟨_,setE d.t _ _ _⟩)=setE d.t _ _ _ from rfl,setE_len];exact hd.t1,by rw [show (De.t ⟨_,setE d.t _ _ _⟩)=setE d.t _ _ _ from rfl,setE_len];exact hd.t8,?_,fun q hq=>by show ((setE _ _ _ _).getD q []).length=16;rw [setE_row];exact hd.rows q (by rw [←setE_len];exact hq),fun z hz=>?_,fun i hi=>?_,fun i hi h0=>?_,fun i hi h0=>?_,fun n hn'=>?_⟩
  ·show (putD d.o _).length≤128;rw [putD_len];split
   ·rename_i hs;have hall:∀k:Nat,k≤d.o.length→(k:Int)∈d.t.flatten:=fun k hk=>by
     cases k with
     |zero=>rw [show ((0:Nat):Int)=(d.t.getD p.toNat []).getD f 0 from he.symm];exact ent_mem hp b10
     |succ k=>
      have hk':k<d.o.length:=b10;have:0<nref d.t k:=by
       rcases Nat.eq_zero_or_pos (nref d.t k) with h0|h0
       ·rcases slot_cases d.o with ⟨_,_,h3⟩|⟨h1,_,_⟩
        ·exact absurd (hd.zero k hk' h0) (h3 k hk')
        ·omega
       ·exact h0
      have:=nref_mem.1 this;rw [show ((k+1:Nat):Int)=(k:Int)+1 by omega];exact this
    have h1:=pig d.o.length d.t.flatten hall;rw [flat_len hd.rows] at h1;have:=hd.t8;omega
   ·exact hd.o128
  ·rcases setE_mem hp hz with hz|rfl
   ·have:=hd.ent z hz;show 0≤z∧z≤((putD d.o _).length:Int);omega
   ·show (0:Int)≤_∧_≤((putD d.o _).length:Int);omega
  ·show ((putD d.o _).getD i Dn.zero).rf=_;rw [putD_get,hn2];by_cases e:i=slotN d.o
   ·rw [if_pos e,if_pos e,e,hslot];rfl
   ·rw [if_neg e,if_neg e];exact hd.rf i (hlen2 i hi e)
  ·show (putD d.o _).getD i Dn.zero=_;rw [show nref (De.t ⟨_,setE d.t p.toNat f _⟩) i=nref (setE d.t p.toNat f _) i from rfl,hn2] at h0;rw [putD_get];by_cases e:i=slotN d.o
   ·rw [if_pos e] at h0;omega
   ·rw [if_neg e] at h0 ⊢;exact hd.zero i (hlen2 i hi e) h0
  ·show rightD ((putD d.o _).getD i Dn.zero)=true;rw [show nref (De.t ⟨_,setE d.t p.toNat f _⟩) i=nref (setE d.t p.toNat f _) i from rfl,hn2] at h0;rw [putD_get];by_cases e:i=slotN d.o
   ·rw [if_pos e];unfold rightD movB;rw [b1,b2];rfl
   ·rw [if_neg e] at h0 ⊢;exact hd.pos i (hlen2 i hi e) h0
  ·show 0<nref (setE d.t p.toNat f _) n;rw [hn2];have hn'':(putD d.o ⟨fi,fl,0,c,1⟩).length=n+1:=hn';rw [putD_len] at hn'';split at hn''
   ·rename_i hs;rw [if_pos b10];omega
   ·have:=hd.last n hn'';omega
 ·rw [if_neg h];exact hd
theorem rf_bd {d:De} (h:checkV d=true) (i:Nat) (hi:i<d.o.length):0≤(d.o.getD i Dn.zero).rf∧(d.o.getD i Dn.zero).rf≤128:=by
 have hl:=check_len h;unfold checkV at h;rw [Bool.and_eq_true,Bool.and_eq_true] at h;have h1:=List.all_eq_true.1 h.2 i (List.mem_range.2 hi);unfold itemB at h1;rw [Bool.and_eq_true] at h1;have h2:=of_decide_eq_true h1.1;have h3:=refC_bd h.1.1 i hi;omega
namespace A544
theorem km3 {p : Prop} (h:p:=by
 exact cm73):p:=h
theorem km24 {p : Prop} (h:p:=by
 refine (HNU.out w2 HFR.out.bel).mono ?_;rintro e w3 ⟨rfl,hb⟩;replace HFR:=Hd (HFR.out.below hb);clear hb HNU;by_cases hne:ne=0
 ·exact cm131
 ·have HOE2:Hid (oe=ne):=by have:=HOE.out;rw [if_pos hne] at this;exact this
  have HOF2:Hid (of=0):=by have:=HOF.out;rw [if_neg b83] at this;exact this
  have HOD2:Hid (od=x.pl):=by have:=HOD.out;rw [if_neg b83] at this;exact this
  exact cm76):p:=h
theorem km32 {p : Prop} (h:p:=by
 exact cm3):p:=h
theorem km52 {p : Prop} (h:p:=by
 have q1y:(k:Int)<(y.t.length:Int):=b10;clear hyt hyo hyT;obtain ⟨g,g2,a1,a2,a3,a4,a5,a6,a7,_,_,_,_,_⟩:=HFR.out.wk.own.tabAt k hkt (by rw [HYTT.out,Q3.out];omega);have hrow:=HFR.out.wk.own.in.tab k hkt;rw [HYTT.out] at hrow a5 a6;have hix:=index_any _ _ _ w3 hrow (by have:=Q3.out;omega);rw [a4] at hix;generalize (y.t.getD k Tb.nil).c=cT at hix a5 a6 a7;have HIX:=Hd hix;obtain ⟨x0,x1,x2,x3,x4⟩:=HFR.out.wk.box.cc;clear hix hrow a4;rw [a1] at x1;go_wp2_with fail;refine HIX.out.mono ?_;rintro e w6 ⟨rfl,hb⟩;replace HFR:=Hd (HFR.out.below hb);clear hb HIX x0 x1 x2 x3 x4 a1 a2 a3 a5 a6 a7;rcases fst_cases zeroB T 0 with ⟨hf,_⟩|⟨j,hf,hj,_,_⟩
 ·rw [hf] at HOE HOF HOD ⊢;have HOE2:Hid (oe=3):=by have:=HOE.out;rw [if_pos b14] at this;exact this
  exact cm77
 ·exact cm136):p:=h
theorem km63 {p : Prop} (h:p:=by
 exact cm32):p:=h
theorem km73 {p : Prop} (h:p:=by
 unfold dVal;go_enter Tryz.func113,Tryz.ntmps113;exact cm24):p:=h
theorem km76 {p : Prop} (h:p:=by
 generalize ((w3.setCell (w 1 0) (.slice y.oa y.o.length y.oc)).setCell (w 1 1) (.slice y.ta y.t.length y.tc))=w9 at *;exact bodyPost_ret (v:=.tuple #[.agg #[.slice y.oa y.o.length y.oc,.slice y.ta y.t.length y.tc],I,ne]) b103 rfl HPo.out):p:=h
theorem km77 {p : Prop} (h:p:=by
 exact cm101):p:=h
theorem km100 {p : Prop} (h:p:=by
 generalize (((w6.setCell (g5 j) (.int .i64 ((q:Int)+1))).setCell (g3 (q*5+4)) (.int .i64 (rf+1))).setCell (w 1 0) (.slice (some (g3 0)) y.o.length y.oc)).setCell (w 1 1) (.slice (some (g4 0)) y.t.length y.tc)=w9 at *;exact bodyPost_ret (v:=.tuple #[.agg #[.slice (some (g3 0)) y.o.length y.oc,.slice (some (g4 0)) y.t.length y.tc],j,I]) b103 rfl HPo.out):p:=h
theorem km101 {p : Prop} (h:p:=by
 go_wp2_with fail;generalize ((w6.setCell (w 1 0) (.slice y.oa y.o.length y.oc)).setCell (w 1 1) (.slice y.ta y.t.length y.tc))=w9 at *;exact bodyPost_ret (v:=.tuple #[.agg #[.slice y.oa y.o.length y.oc,.slice y.ta y.t.length y.tc],I,(3:Int)]) b103 rfl HPo.out):p:=h
theorem km113 {p : Prop} (h:p:=by
 exact cm132):p:=h
theorem km131 {p : Prop} (h:p:=by
 exact cm52):p:=h
theorem km132 {p : Prop} (h:p:=by
 have HF8:=Hd (HFR.out.turn ((Below.refl (w.heap.size+2) w6).setCell (p:=(g5 j)) c10 (.int .i64 ((q:Int)+1))) (HFR.out.wk.putT k hkt c4 j ((q:Int)+1)));have HF9:=Hd (HF8.out.turn ((Below.refl (w.heap.size+2) _).setCell (p:=(g3 (q*5+4))) b6 (.int .i64 ((y.o.getD q Dn.zero).rf+1))) (HF8.out.wk.putC b1 q hqy 4 b10 (.int .i64 ((y.o.getD q Dn.zero).rf+1)) (bump (y.o.getD q Dn.zero) ((y.o.getD q Dn.zero).rf+1)) rfl));exact cm100):p:=h
theorem km136 {p : Prop} (h:p:=by
 rw [if_pos HOE2.out,Int.toNat_natCast,Int.toNat_natCast,Int.toNat_natCast] at hod2;have HOD2:=Hd hod2;have hj16:(j:Int)<16:=by have:=Q3.out;omega
 clear HOE HOF HOD hod2;have hyT:=HYTT.out;have q3:=Q3.out;exact cm113):p:=h
end A544
open A544 in
set_option maxHeartbeats 8000000 in
theorem dup_any (x:Dv) (p f:Int) (w:World) (h:DIn w x) (hz:DSz x):
 Calls Tryz.prog 113 #[dVal x,p,f] w (OutP w x (dupD x.pl p f) (fun v=>.tuple #[v,(dupF x.pl p f),(dupE x.pl p f)])):=by
 exact cm63
theorem trim_drop (o:List Dn) (a:Dn) (h:a.rf=0):trim (o++[a])=trim o:=by
 unfold trim;rw [List.reverse_append];show (trimR (a::o.reverse)).reverse=_;unfold trimR;rw [if_pos h];cases o.reverse<;>rfl
theorem trim_keep (o:List Dn) (a:Dn) (h:a.rf≠0):trim (o++[a])=o++[a]:=by
 unfold trim;rw [List.reverse_append];show (trimR (a::o.reverse)).reverse=_;unfold trimR;rw [if_neg h,List.reverse_cons,List.reverse_reverse]
theorem take_last (o:List Dn) (m:Nat) (hm:m<o.length):o.take (m+1)=o.take m++[o.getD m Dn.zero]:=by
 rw [List.take_add_one,getD_get hm];simp [List.getElem?_eq_getElem hm]
theorem oflat_take (o:List Dn) (m:Nat):(oflat o).take (m*5)=oflat (o.take m):=by
 induction o generalizing m with
 |nil=>simp [oflat]
 |cons a r ih=>
  cases m with
  |zero=>simp [oflat]
  |succ m=>
   have e:oflat (a::r)=a.cells++oflat r:=rfl;have e2:oflat ((a::r).take (m+1))=a.cells++oflat (r.take m):=rfl;rw [e,e2,List.take_append,show a.cells.length=5 from rfl,List.take_of_length_le (by rw [show a.cells.length=5 from rfl];omega),show (m+1)*5-5=m*5 by omega,ih]
theorem own_shrink {W:World} {B n cap:Nat} {a:Option Addr} {o:List Dn} (h:W.ownsRow B 126 5 (.slice a n cap) n (oflat o)) (hl:o.length=n) (m:Nat) (hm:m≤n) (h0:0<n):W.ownsRow B 126 5 (.slice a m cap) m (oflat (o.take m)):=by
 refine ⟨by rw [oflat_len,List.length_take];congr 1;omega,?_⟩;rcases h.2 with ⟨hv,hn⟩|⟨g,cap',cur,hv,h1,h2,h3,h4,h5,h6⟩
 ·omega
 ·cases hv;refine Or.inr ⟨g,cap,cur,rfl,h1,h2,by omega,h4,h5,?_⟩;have h7:=congrArg (List.take (m*5)) h6;rw [List.take_take,oflat_take,Nat.min_eq_left (Nat.mul_le_mul_right 5 hm)] at h7;exact h7
def lenAt (W:World) (O:Nat):Nat:=match W.cell? (O 0) with|some (.slice _ n _)=>n| _=>0
theorem lenAt_of {W:World} {O n c:Nat} {a:Option Addr} (h:W.cell? (O 0)=some (.slice a n c)):lenAt W O=n:=by unfold lenAt;rw [h]
namespace Adoz
theorem km3 {p : Prop} (h:p:=by
 generalize OutP w x (closeD x.pl p f) (fun v=>.tuple #[v,.bool (closeG x.pl p f),(numE x.pl p f)])=Post at *;generalize closeD x.pl p f=od at *;generalize closeG x.pl p f=og at *;generalize numE x.pl p f=ne at *;generalize numV x.pl p f=nv at *;generalize tabAt x.pl p=T at *;unfold dVal;go_enter Tryz.func89,Tryz.ntmps89;exact cm24):p:=h
theorem km24 {p : Prop} (h:p:=by
 refine (HNU.out w2 HFR.out.bel).mono ?_;rintro e w3 ⟨rfl,hb⟩;replace HFR:=Hd (HFR.out.below hb);clear hb HNU;by_cases hne:ne=0
 ·exact cm85
 ·have HOG2:Hid (og=false):=by have:=HOG.out;rw [decide_eq_false hne,Bool.false_and] at this;exact this
  have HOD2:Hid (od=x.pl):=by have:=HOD.out;rw [if_neg hne] at this;exact this
  obtain ⟨hA5,hD5,hB5⟩:=HFR.out.fin;have e0:=hA5.cell 0 _ rfl;have e1:=hA5.cell 1 _ rfl;have hpo:=HP.out y _ b41 hD5 hB5;rw [HOG2.out] at hpo;exact cm120):p:=h
theorem km31 {p : Prop} (h:p:=by
 exact cm3):p:=h
theorem km52 {p : Prop} (h:p:=by
 have q1y:(k:Int)<(y.t.length:Int):=b10;clear hyt hyo hyT;have hyT:=HYTT.out;have q3:=Q3.out;have hj16:j<16:=b10;exact cm113):p:=h
theorem km63 {p : Prop} (h:p:=by
 exact cm31):p:=h
theorem km79 {p : Prop} (h:p:=by
 generalize (wr.setCell (w 1 0) (.slice (some (g3 0)) (m'+1) y.oc)).setCell (w 1 1) (.slice (some (g4 0)) y.t.length y.tc)=w9 at *;exact bodyPost_ret (v:=.tuple #[.agg #[.slice (some (g3 0)) (m'+1) y.oc,.slice (some (g4 0)) y.t.length y.tc],.bool true,I]) b84 rfl HPo.out):p:=h
theorem km85 {p : Prop} (h:p:=by
 exact cm52):p:=h
theorem km99 {p : Prop} (h:p:=by
 generalize hwB:((w3.setCell (g5 j) I).setCell (g3 (q*5+4)) (.int .i64 (rf-1)))=wB at *;exact cm135):p:=h
theorem km111 {p : Prop} (h:p:=by
 go_loopw [] (fun wr=>∃m:Nat,Hid (m≤O1.length∧0<O1.length∧trim O1=trim (O1.take m))∧Hid (Fr w x wr (w.heap.size+2) (w.heap.size+1) O ⟨some ⟨g3,0,none⟩,y.oc,O1.take m,y.ta,y.tc,tset y.t k j 0⟩)) (fun wr=>lenAt wr O)
 case atStart=>exact ⟨O1.length,⟨Nat.le_refl _,by rw [HL1.out];omega,by rw [List.take_length]⟩,by rw [List.take_length];exact HFC⟩
 case round=>
  exact cm138):p:=h
theorem km113 {p : Prop} (h:p:=by
 have hjT:(j:Int)<(T.length:Int):=b10;have hqy:q<y.o.length:=by rw [HYO.out];exact HQ.out
 obtain ⟨g3,b1,b2,b3,b4,b5,b6,b7⟩:=HFR.out.wk.own.descAt q hqy;rw [←HYO.out] at HRF HOG HOD;have hrf0:=HRF.out;have k4:=b4.c4;have HF8:=Hd (HFR.out.turn ((Below.refl (w.heap.size+2) w3).setCell (p:=(g5 j)) c10 (.int .i64 0)) (HFR.out.wk.putT k hkt c4 j 0));exact cm99):p:=h
theorem km120 {p : Prop} (h:p:=by
 exact bodyPost_ret (v:=.tuple #[.agg #[.slice y.oa y.o.length y.oc,.slice y.ta y.t.length y.tc],.bool false,ne]) b84 rfl HPo.out):p:=h
theorem km122 {p : Prop} (h:p:=by
 exact bodyPost_ret (v:=.tuple #[.agg #[.slice (some (g3 0)) y.o.length y.oc,.slice (some (g4 0)) y.t.length y.tc],.bool false,I]) b84 rfl HPo.out):p:=h
theorem km123 {p : Prop} (h:p:=by
 exact bodyPost_ret (v:=.tuple #[.agg #[.slice (some (g3 0)) 0 y.oc,.slice (some (g4 0)) y.t.length y.tc],.bool true,I]) b84 rfl HPo.out):p:=h
theorem km134 {p : Prop} (h:p:=by
 by_cases he:e.rf=0
 ·exact cl19
 ·have hfin:trim O1=O1.take (m'+1):=by rw [HTR.out,HTD.out,trim_keep _ _ he]
  have HFIN:=Hd hfin;have he1:(e.rf==0)=false:=by simpa using he
  clear hfin HTD;generalize e.rf=erf at *;clear he;exact cm79):p:=h
theorem km135 {p : Prop} (h:p:=by
 by_cases hrp:0<rf-1
 ·exact cm122
 ·exact cm111):p:=h
theorem km138 {p : Prop} (h:p:=by
 by_cases hm0:0<m
 ·exact cm134
 ·exact cm123):p:=h
end Adoz
open Adoz in
set_option maxHeartbeats 8000000 in
theorem close_any (x:Dv) (p f:Int) (w:World) (h:DIn w x) (hz:DSz x):
 Calls Tryz.prog 89 #[dVal x,p,f] w (OutP w x (closeD x.pl p f) (fun v=>.tuple #[v,.bool (closeG x.pl p f),(numE x.pl p f)])):=by
 exact cm63
end Go.Proofs.YtimhaidiclbnhaaGreat.Des
