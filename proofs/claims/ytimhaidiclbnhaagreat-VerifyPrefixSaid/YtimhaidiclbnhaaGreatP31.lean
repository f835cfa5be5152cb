import Derived.Test.YtimhaidiclbnhaaGreatP30
set_option linter.unusedSimpArgs false
set_option linter.unusedVariables false
set_option maxRecDepth 100000
open Go.ChangeShapes Go.WideShapes Go.ChangeAt Go.RowKit
namespace Go.Proofs.YtimhaidiclbnhaaGreat.Ver
open Des (Dv De Dn DIn DBlk DAns Vi At RowOf ints DSz)
open Ara (Ar ARow)
open Con (StrRow)
theorem getD_mem0 {l:List ByteArray} {i:Nat} (h:∀y,y∈l→y.size≤1000):(l.getD i ⟨#[]⟩).size≤1000:=by
 by_cases hi:i<l.length
 ·rw [show l.getD i ⟨#[]⟩=l[i] from by simp [List.getD,hi]];exact h _ (List.getElem_mem hi)
 ·rw [show l.getD i ⟨#[]⟩=⟨#[]⟩ from by simp [List.getD,hi]];exact Nat.zero_le _
theorem write_size {s b:ByteArray} {o:Int} (h:s.size≤1000):(Con.writeV s o b).1.size≤1000:=by
 unfold Con.writeV;split
 ·exact h
 split
 ·exact h
 split
 ·exact h
 ·rename_i h1 h2 h3;rw [Con.longB_iff] at h1;rw [Con.badB_iff] at h2;show (Con.putS s o.toNat b).size≤1000;rw [Con.putS_size];omega
theorem trunc_size {s:ByteArray} {o:Int} (h:s.size≤1000):(Con.truncV s o).1.size≤1000:=by
 unfold Con.truncV;split
 ·exact h
 split
 ·exact h
 ·rename_i h1 h2;rw [Con.badB_iff] at h2;show (Con.sizedS s o.toNat).size≤1000;rw [Con.sizedS_size];omega
theorem punch_size {s:ByteArray} {o n:Int} (h:s.size≤1000):(Con.punchV s o n).1.size≤1000:=by
 unfold Con.punchV;split
 ·exact h
 split
 ·exact h
 split
 ·exact h
 ·rename_i h1 h2 h3;rw [Con.longB_iff] at h1;rw [Con.badB_iff] at h2;show (Con.putS s o.toNat _).size≤1000;rw [Con.putS_size,Con.sizedS_size];omega
def HL (K:Nat) (s:St):Prop:=∀i,i<s.h.length→(s.h.getD i ([],0)).1.length≤K
theorem ok_ch {K:Nat} {s:St} (h:Ok K s) (hl:HL K s) (f:Nat) {d:ByteArray} (hd:d.size≤1000):Ok K (chS s f d):=by
 unfold chS;refine {h with fa:=?_,la:=?_,h:=?_,st:=?_,nf:=?_,hl:=?_,sz:=?_,af:=?_}
 ·show (s.fs.set f d).length≤1000;rw [List.length_set];exact h.nf
 ·show s.fa.length=(s.fs.set f d).length;rw [List.length_set];exact h.fa
 ·show s.la.length=(s.fs.set f d).length;rw [List.length_set];exact h.la
 ·show (s.h.set f _).length=(s.fs.set f d).length;rw [List.length_set,List.length_set];exact h.h
 ·show s.st.length=(s.fs.set f d).length;rw [List.length_set];exact h.st
 ·intro i hi;have hi:i<s.h.length:=by have:i<(s.h.set f ((s.h.getD f ([],0)).1++[d],(s.h.getD f ([],0)).2)).length:=hi;rwa [List.length_set] at this
  show ((s.h.set f ((s.h.getD f ([],0)).1++[d],(s.h.getD f ([],0)).2)).getD i ([],0)).1.length≤K+1;rw [getD_set0];split
  ·rename_i hc;have:=hl f hc.2;simp only [List.length_append,List.length_singleton];omega
  ·exact Nat.le_trans (hl i hi) b10
 ·intro y hy;have hy:y∈s.fs.set f d:=hy;rcases List.mem_or_eq_of_mem_set hy with h1|h1
  ·exact h.sz y h1
  ·rw [h1];exact hd
 ·intro p a ha;show ∃f':Nat,a.fi=(f':Int)∧f'<(s.fs.set f d).length;rw [List.length_set];exact h.af p a ha
theorem ok_d {K:Nat} {s:St} (h:Ok K s) {d:De} (hd:Des.Rt d):Ok K {s with d:=d}:={h with rt:=hd}
theorem ok_sy {K:Nat} {s:St} (h:Ok K s) (f:Nat) (x:Ev):Ok K (syS s f x):=by
 unfold syS;split
 ·refine {h with h:=?_,hl:=?_}
  ·show (s.h.set f _).length=s.fs.length;rw [List.length_set];exact h.h
  ·intro i hi;have hi:i<s.h.length:=by
    have:i<(s.h.set f ((s.h.getD f ([],0)).1,Con.syncV (s.h.getD f ([],0)).1.length (s.h.getD f ([],0)).2 ((s.st.getD f []).getD x.bg.toNat 0-1))).length:=hi;rwa [List.length_set] at this
   show ((s.h.set f _).getD i ([],0)).1.length≤K+1;rw [getD_set0];split
   ·rename_i hc;exact h.hl f hc.2
   ·exact h.hl i hi
 ·exact h
theorem ok_ar {K:Nat} {s:St} (h:Ok K s) (p:Nat) {L:List Ar} (hl:L.length≤100) (hf:∀a,a∈L→∃f:Nat,a.fi=(f:Int)∧f<s.fs.length):Ok K {s with ar:=s.ar.set p L}:=by
 refine {h with ar:=?_,al:=?_,af:=?_}
 ·show (s.ar.set p L).length=_;rw [List.length_set];exact h.ar
 ·intro q;show ((s.ar.set p L).getD q []).length≤100;rw [getD_set0];split
  ·exact hl
  ·exact h.al q
 ·intro q a ha;have ha:a∈(s.ar.set p L).getD q []:=ha;rw [getD_set0] at ha;split at ha
  ·exact hf a ha
  ·exact h.af q a ha
theorem map_mem {l:List Ar} {a y:Ar} (h0:(Ara.mapV l a).2=0) (hy:y∈(Ara.mapV l a).1):(y=a∨y∈l):=by
 unfold Ara.mapV at h0 hy;split at hy
 ·exact Or.inr hy
 split at hy
 ·exact Or.inr hy
 split at hy
 ·exact Or.inr hy
 split at hy
 ·exact Or.inr hy
 ·simp only [Ara.insAt,List.mem_append,List.mem_cons] at hy;rcases hy with h1|h1|h1
  ·exact Or.inr (List.mem_of_mem_take h1)
  ·exact Or.inl h1
  ·exact Or.inr (List.mem_of_mem_drop h1)
theorem map_len {l:List Ar} {a:Ar} (h:l.length≤100):(Ara.mapV l a).1.length≤100:=by
 unfold Ara.mapV;split
 ·exact h
 split
 ·exact h
 split
 ·exact h
 split
 ·exact h
 ·rename_i h1 h2 h3 h4;have:=Ara.check_len (by simpa using h1:Ara.checkV l=true);simp only [Ara.insAt,List.length_append,List.length_cons,List.length_take,List.length_drop];omega
theorem unmap_mem {l:List Ar} {s n:Int} {y:Ar} (hy:y∈(Ara.unmapV l s n).1):∃x∈l,y.fi=x.fi:=by
 unfold Ara.unmapV at hy;split at hy
 ·exact ⟨y,hy,rfl⟩
 split at hy
 ·exact ⟨y,hy,rfl⟩
 split at hy
 ·exact ⟨y,hy,rfl⟩
 ·obtain ⟨x,hx,h1⟩:=Ara.mem_out.1 hy;refine ⟨x,hx,?_⟩;rcases h1 with h1|h1<;>· rw [(Ara.part_iff.1 h1).2]
theorem unmap_len {l:List Ar} {s n:Int} (h:l.length≤100):(Ara.unmapV l s n).1.length≤100:=by
 unfold Ara.unmapV;split
 ·exact h
 split
 ·exact h
 split
 ·exact h
 ·rename_i h1 h2 h3;show (Ara.outTo l s n l.length).length≤100;omega
namespace A8ay
theorem km12 {p : Prop} (h:p:=by
 split
 ·exact h
 split
 ·exact h
 split
 ·exact h
 ·exact ok_ch (ok_d h (Des.rt_upd h.rt)) hl _ (write_size (hz _))):p:=h
end A8ay
open A8ay in
theorem ok_plan {K:Nat} {s:St} (h:Ok K s) (hl:HL K s) (p:Nat) (o:Opr) (x:Ev):Ok K (planR s p o x).2:=by
 have hz:=fun f=>getD_mem0 (i:=f) h.sz;unfold planR;split
 ·unfold openedR;split
  ·exact h
  split
  ·exact ok_d h (Des.rt_open h.rt)
  ·exact h
 ·unfold closedR;split
  ·exact ok_d h (Des.rt_close h.rt)
  ·exact h
 ·unfold readR;split
  ·exact h
  split
  ·exact h
  ·exact ok_d h (Des.rt_upd h.rt)
 ·unfold writeR;exact cm12
 ·unfold seekR;split
  ·exact h
  split
  ·exact h
  ·exact ok_d h (Des.rt_upd h.rt)
 ·unfold truncateR;split
  ·exact h
  split
  ·exact h
  ·exact ok_ch h hl _ (trunc_size (hz _))
 ·unfold punchR;split
  ·exact h
  split
  ·exact h
  ·exact ok_ch h hl _ (punch_size (hz _))
 ·unfold syncR;split
  ·exact h
  ·exact ok_sy (ok_d h (Des.rt_upd h.rt)) _ _
 ·unfold mappedR;split
  ·exact h
  split
  ·exact h
  split
  ·exact h
  split
  ·exact h
  split
  ·exact h
  ·rename_i h1 h2 h3 h4 h5;refine ok_ar h p (map_len (h.al p)) fun a ha=>?_
   rcases map_mem (Classical.not_not.1 h5) ha with rfl|h6
   ·exact (lk_zero (Classical.not_not.1 h1) h.rt).2.2.2
   ·exact h.af p a h6
 ·unfold unmapR;split
  ·exact h
  ·refine ok_ar h p (unmap_len (h.al p)) fun a ha=>?_
   obtain ⟨y,hy,e⟩:=unmap_mem ha;rw [e];exact h.af p y hy
 ·unfold loadR;split
  ·exact h
  split
  ·exact h
  ·exact h
 ·unfold storeR;split
  ·exact h
  split
  ·exact h
  split
  ·exact h
  split
  ·exact h
  ·exact ok_ch h hl _ (write_size (hz _))
 ·unfold dupR;split
  ·exact ok_d h (Des.rt_dup h.rt)
  ·exact h
 ·exact h
theorem ok_fail {K:Nat} {s:St} (h:Ok K s) (x:Ev):Ok K (failS s x):=by
 unfold failS;refine {h with fa:=?_,la:=?_,fab:=?_}
 ·show (s.fa.set _ _).length=_;rw [List.length_set];exact h.fa
 ·show (s.la.set _ _).length=_;rw [List.length_set];exact h.la
 ·intro f;show 0≤(s.fa.set _ _).getD f 0∧(s.fa.set _ _).getD f 0≤1000000;rw [getD_set0];have:=h.fab x.fi.toNat;have:=h.fab f;split<;>omega
theorem hl_ord {K:Nat} {s:St} (x:Ev) (h:Ok K s):HL (K+1) (ordS (stS s) x):=by
 have e:(ordS (stS s) x).h=s.h:=by unfold ordS;split<;>rfl
 intro i hi;rw [e] at hi ⊢;exact h.hl i hi
theorem ok_take {K:Nat} {s:St} (h:Ok K s) (i:Int) (x:Ev):Ok (K+1) (takeS s i x).2:=by
 have h1:=ok_ord x h;unfold takeS;split
 ·exact ok_fail h1 x
 ·show Ok (K+1) (if _ then _ else _);split
  ·exact ok_plan h1 (hl_ord x h) _ _ _
  ·exact h1
theorem plan_keep (s:St) (p:Nat) (o:Opr) (x:Ev):(planR s p o x).2.scr=s.scr∧(planR s p o x).2.fs.length=s.fs.length:=by
 unfold planR;split
 ·unfold openedR;split;exact ⟨rfl,rfl⟩;split<;>exact ⟨rfl,rfl⟩
 ·unfold closedR;split<;>exact ⟨rfl,rfl⟩
 ·unfold readR;split;exact ⟨rfl,rfl⟩;split<;>exact ⟨rfl,rfl⟩
 ·unfold writeR;generalize (if andV (Des.lookV s.d p o.fd).fl 4≠0∧¬o.dat.size=0 then ((s.fs.getD (Des.lookV s.d p o.fd).fi.toNat ⟨#[]⟩).size:Int) else (Des.lookV s.d p o.fd).f)=q;split;exact ⟨rfl,rfl⟩;split;exact ⟨rfl,rfl⟩;split;exact ⟨rfl,rfl⟩;exact ⟨rfl,by simp [chS]⟩
 ·unfold seekR;split;exact ⟨rfl,rfl⟩;split<;>exact ⟨rfl,rfl⟩
 ·unfold truncateR;split;exact ⟨rfl,rfl⟩;split;exact ⟨rfl,rfl⟩;exact ⟨rfl,by simp [chS]⟩
 ·unfold punchR;split;exact ⟨rfl,rfl⟩;split;exact ⟨rfl,rfl⟩;exact ⟨rfl,by simp [chS]⟩
 ·exact cl70
 ·unfold mappedR;split;exact ⟨rfl,rfl⟩;split;exact ⟨rfl,rfl⟩;split;exact ⟨rfl,rfl⟩;split;exact ⟨rfl,rfl⟩;split<;>exact ⟨rfl,rfl⟩
 ·unfold unmapR;split<;>exact ⟨rfl,rfl⟩
 ·unfold loadR;split;exact ⟨rfl,rfl⟩;split<;>exact ⟨rfl,rfl⟩
 ·unfold storeR;split;exact ⟨rfl,rfl⟩;split;exact ⟨rfl,rfl⟩;split;exact ⟨rfl,rfl⟩;split;exact ⟨rfl,rfl⟩;exact ⟨rfl,by simp [chS]⟩
 ·unfold dupR;split<;>exact ⟨rfl,rfl⟩
 ·exact ⟨rfl,rfl⟩
theorem ord_keep (s:St) (x:Ev):(ordS (stS s) x).scr=s.scr∧(ordS (stS s) x).fs=s.fs:=by unfold ordS;split<;>exact ⟨rfl,rfl⟩
theorem take_keep (s:St) (i:Int) (x:Ev):(takeS s i x).2.scr=s.scr∧(takeS s i x).2.fs.length=s.fs.length:=by
 obtain ⟨h1,h2⟩:=ord_keep s x;unfold takeS;split
 ·exact ⟨h1,by show (ordS (stS s) x).fs.length=_;rw [h2]⟩
 ·show (ite _ _ _:St).scr=_∧(ite _ _ _:St).fs.length=_;split
  ·obtain ⟨h3,h4⟩:=plan_keep (ordS (stS s) x) x.pr.toNat (opAt s x.pr.toNat x.ix.toNat) x;exact ⟨h3.trans h1,by rw [h4,h2]⟩
  ·exact ⟨h1,by rw [h2]⟩
theorem kn_keep {s t:St} (h:t.scr=s.scr∧t.fs.length=s.fs.length) (x:Ev):knB t x=knB s x:=by unfold knB;rw [h.1,h.2]
def begF (n:Nat) (lst:List ByteArray):List ByteArray:=(List.range n).map fun i=>lst.getD i ⟨#[]⟩
def begK (scr:List (List Opr)) (n:Nat) (fs:List ByteArray) (d:De) (k:Nat):St:=
 {scr:=scr,fs:=fs,fa:=List.replicate n 0,la:=List.replicate n 0,d:=d,ar:=List.replicate scr.length [],h:=(List.range n).map fun i=>if i<k then ([fs.getD i ⟨#[]⟩],0) else ([],0),st:=List.replicate n [],fin:=List.replicate scr.length 0,bg:=List.replicate scr.length 0,tm:=0}
def begS (scr:List (List Opr)) (n:Nat) (lst:List ByteArray):St:=begK scr n (begF n lst) (Des.newD scr.length) n
theorem begF_len (n:Nat) (lst:List ByteArray):(begF n lst).length=n:=by simp [begF]
theorem begF_get (n:Nat) (lst:List ByteArray) (i:Nat) (hi:i<n):(begF n lst).getD i ⟨#[]⟩=lst.getD i ⟨#[]⟩:=by simp [begF,List.getD,hi]
theorem getD_repl {α:Type} (n i:Nat) (a d:α) (h:i<n):(List.replicate n a).getD i d=a:=by simp [List.getD,h]
def begL (β:Nat→Nat) (pl sc:Value) (n ns:Nat):Ly:={M:=β 8,F:=β 0,A:=β 1,L:=β 2,R:=β 5,H:=β 3,S:=β 4,N:=β 6,B:=β 7,pl:=pl,sc:=sc,x:=Des.Dv.nil,ar:=List.replicate ns Sl.nil,hs:=List.replicate n Sl.nil,st:=List.replicate n Sl.nil}
theorem stB_nil (n:Nat):stB (List.replicate n Sl.nil)=[]:=by
 unfold stB;rw [List.filterMap_eq_nil_iff];intro a ha;rw [List.eq_of_mem_replicate ha];rfl
theorem slC_nil {α:Type} (n:Nat):slC (List.replicate n Sl.nil) (List.replicate n ([]:List α))=List.replicate n (.slice none 0 0):=by
 apply List.ext_getElem?;intro i;rcases Nat.lt_or_ge i n with h|h
 ·rw [slC_at _ _ i b35,getD_repl n i _ _ h,getD_repl n i _ _ h];simp [h,Sl.nil]
 ·rw [List.getElem?_eq_none (by rw [slC_len];simpa using h),List.getElem?_eq_none b35]
theorem flat_congr {α β:Type} (f g:α→List β):∀(l:List α),(∀a,a∈l→f a=g a)→l.flatMap f=l.flatMap g
 |[],_=>rfl
 |a::l,h=>by
  rw [List.flatMap_cons,List.flatMap_cons,h a b11,flat_congr f g l fun b hb=>h b (by simp [hb])]
theorem hC_nil (n:Nat):hC (List.replicate n Sl.nil) ((List.range n).map fun i=>if i<0 then ([(List.replicate n (⟨#[]⟩:ByteArray)).getD i ⟨#[]⟩],0) else (([]:List ByteArray),(0:Int)))=(List.range n).flatMap fun _=>[.slice none 0 0,.int .i64 0]:=by
 have e:((List.range n).map fun i=>if i<0 then ([(List.replicate n (⟨#[]⟩:ByteArray)).getD i ⟨#[]⟩],0) else (([]:List ByteArray),(0:Int)))=List.replicate n ([],0):=by
  apply List.ext_getElem?;intro i;rcases Nat.lt_or_ge i n with h|h
  ·simp [h]
  ·rw [List.getElem?_eq_none b35,List.getElem?_eq_none b35]
 rw [e];unfold hC;rw [List.length_replicate];refine flat_congr _ _ _ fun i hi=>?_
 have h:=List.mem_range.1 hi;rw [getD_repl n i _ _ h,getD_repl n i _ _ h];rfl
theorem begin_mm {W1 w W:World} {pl sc:Value} {n ns:Nat} {ν:Nat→Value} {β:Nat→Nat} {l:Array Bool} {scr:List (List Opr)} (hb:BgS W1 pl sc n ns ν β l w) (hall:∀j,j<26→l.getD j false=true)
 (hW:Below W W W1) (hsc:ScIn W.heap.size W sc scr) (hns:scr.length=ns):Mm W.heap.size w (begL β pl sc n ns) (begK scr n (List.replicate n ⟨#[]⟩) ⟨[],[]⟩ 0):=by
 subst hns;have hW1:=hW.size;have al:∀j,j<8→W1.heap.size≤β j∧Bl w (β j) ((zsL n scr.length).getD j ([],0)).1 ((zsL n scr.length).getD j ([],0)).2:=fun j hj=>hb.mks.al j hj (hall _ (by have:=pos_le j hj;omega));have ne:∀i j,i<8→j<8→i≠j→β i≠β j:=fun i j hi hj hij=>hb.mks.ne i j hi hj hij (hall _ (by have:=pos_le i hi;omega)) (hall _ (by have:=pos_le j hj;omega));obtain ⟨_,_,b1,b2,b3⟩:=hb.bx (hall 24 b10);have hbw:Below W W w:=hW.trans (hb.mks.bel.mono hW1);have hvs:vs (begL β pl sc n scr.length)=[β 8,β 0,β 1,β 2,β 5,β 3,β 4,β 6,β 7]:=by
  unfold vs;show _++stB (List.replicate n Sl.nil)=_;rw [stB_nil];rfl
 have hlo:∀b,b∈vs (begL β pl sc n scr.length)→W.heap.size≤b:=by
  intro b hbm;rw [hvs] at hbm;simp only [List.mem_cons,List.not_mem_nil,or_false] at hbm;rcases hbm with rfl|rfl|rfl|rfl|rfl|rfl|rfl|rfl|rfl
  ·omega
  all_goals first|(have:=(al 0 b10).1;omega)|(have:=(al 1 b10).1;omega)|(have:=(al 2 b10).1;omega)|(have:=(al 3 b10).1;omega)|(have:=(al 4 b10).1;omega)|(have:=(al 5 b10).1;omega)|(have:=(al 6 b10).1;omega)|(have:=(al 7 b10).1;omega)
 refine ⟨⟨⟨DIn.nil w,fun b hd=>?_⟩,rfl,fun i hi=>?_,fun i hi=>?_,hsc.below hbw⟩,?_,?_,?_,?_,?_,?_,?_,?_,?_,fun i hi=>?_,?_,hlo,hbw.size,?_,?_,?_,fun b hb=>by cases hb⟩
 ·rcases hd with ⟨q,h1,_⟩|⟨q,h1,_⟩|⟨z,hz,_⟩
  ·cases h1
  ·cases h1
  ·cases hz
 ·have hi:i<scr.length:=by simpa [begK] using hi
  show ARow 0 ((List.replicate scr.length Sl.nil).getD i Sl.nil).a _ ((List.replicate scr.length []).getD i []) w∧_;simp only [begL,begK,getD_repl _ _ _ _ hi];exact ⟨Or.inl ⟨rfl,rfl,rfl⟩,fun q hq=>by cases hq⟩
 ·have hi:i<n:=by simpa [begK] using hi
  have e:(((List.range n).map fun i=>if i<0 then ([(List.replicate n (⟨#[]⟩:ByteArray)).getD i ⟨#[]⟩],0) else (([]:List ByteArray),(0:Int))).getD i ([],0)).1=[]:=by simp [List.getD,hi]
  simp only [begL,begK,getD_repl _ _ _ _ hi,e];exact ⟨Or.inl ⟨rfl,rfl,rfl⟩,fun q hq=>by cases hq⟩
 ·have h1:=b2.at;have e:mC (begL β pl sc n scr.length) (begK scr n (List.replicate n ⟨#[]⟩) ⟨[],[]⟩ 0)=mzC pl sc n scr.length β:=by
   simp [mC,mzC,cfgC,begL,begK,Des.Dv.nil]
  show At w (β 8) _;rw [e];exact h1
 ·have h1:=(al 0 b10).2.at;show At w (β 0) ((List.replicate n (⟨#[]⟩:ByteArray)).map Value.string);rw [List.map_replicate];exact h1
 ·have h1:=(al 1 b10).2.at;show At w (β 1) ((List.replicate n (0:Int)).map _);rw [List.map_replicate];exact h1
 ·have h1:=(al 2 b10).2.at;show At w (β 2) ((List.replicate n (0:Int)).map _);rw [List.map_replicate];exact h1
 ·have h1:=(al 5 b10).2.at;show At w (β 5) (slC (List.replicate scr.length Sl.nil) (List.replicate scr.length []));rw [slC_nil];exact h1
 ·have h1:=(al 3 b10).2.at;show At w (β 3) (hC (List.replicate n Sl.nil) _);have e:=hC_nil n;show At w (β 3) (hC (List.replicate n Sl.nil) ((List.range n).map _));exact e▸h1
 ·have h1:=(al 4 b10).2.at;show At w (β 4) (slC (List.replicate n Sl.nil) (List.replicate n []));rw [slC_nil];exact h1
 ·have h1:=(al 6 b10).2.at;show At w (β 6) ((List.replicate scr.length (0:Int)).map _);rw [List.map_replicate];exact h1
 ·have h1:=(al 7 b10).2.at;show At w (β 7) ((List.replicate scr.length (0:Int)).map _);rw [List.map_replicate];exact h1
 ·have hi:i<n:=by simpa [begK] using hi
  simp only [begL,begK,getD_repl _ _ _ _ hi];exact World.ownsRow_nil w _ 3 1
 ·rw [hvs];have n01:=ne 0 1 b10 b10 b10;have n02:=ne 0 2 b10 b10 b10;have n03:=ne 0 3 b10 b10 b10;have n04:=ne 0 4 b10 b10 b10;have n05:=ne 0 5 b10 b10 b10;have n06:=ne 0 6 b10 b10 b10;have n07:=ne 0 7 b10 b10 b10;have n12:=ne 1 2 b10 b10 b10;have n13:=ne 1 3 b10 b10 b10;have n14:=ne 1 4 b10 b10 b10;have n15:=ne 1 5 b10 b10 b10;have n16:=ne 1 6 b10 b10 b10;have n17:=ne 1 7 b10 b10 b10;have n23:=ne 2 3 b10 b10 b10;have n24:=ne 2 4 b10 b10 b10;have n25:=ne 2 5 b10 b10 b10;have n26:=ne 2 6 b10 b10 b10;have n27:=ne 2 7 b10 b10 b10;have n53:=ne 5 3 b10 b10 b10;have n54:=ne 5 4 b10 b10 b10;have n56:=ne 5 6 b10 b10 b10;have n57:=ne 5 7 b10 b10 b10;have n34:=ne 3 4 b10 b10 b10;have n36:=ne 3 6 b10 b10 b10;have n37:=ne 3 7 b10 b10 b10;have n46:=ne 4 6 b10 b10 b10;have n47:=ne 4 7 b10 b10 b10;have n67:=ne 6 7 b10 b10 b10;have m0:=(b3 0 b10).symm;have m1:=(b3 1 b10).symm;have m2:=(b3 2 b10).symm;have m3:=(b3 3 b10).symm;have m4:=(b3 4 b10).symm;have m5:=(b3 5 b10).symm;have m6:=(b3 6 b10).symm;have m7:=(b3 7 b10).symm;clear ne al b3 hlo hvs;simp only [List.nodup_cons,List.mem_cons,List.not_mem_nil,or_false,not_or,not_false_eq_true,List.nodup_nil,and_true];exact ⟨⟨m0,m1,m2,m5,m3,m4,m6,m7⟩,⟨n01,n02,n05,n03,n04,n06,n07⟩,⟨n12,n15,n13,n14,n16,n17⟩,⟨n25,n23,n24,n26,n27⟩,⟨n53,n54,n56,n57⟩,⟨n34,n36,n37⟩,⟨n46,n47⟩,n67⟩
 ·simp [begL,begK]
 ·simp [begL,begK]
 ·simp [begL,begK]
def setFs (xs:List ByteArray) (o:Nat):List ByteArray→List ByteArray
 |[]=>xs
 |v::vs=>setFs (xs.set o v) (o+1) vs
theorem setFs_get:∀(vs xs:List ByteArray) (o i:Nat),o+vs.length≤xs.length→(setFs xs o vs).getD i ⟨#[]⟩=if o≤i∧i<o+vs.length then vs.getD (i-o) ⟨#[]⟩ else xs.getD i ⟨#[]⟩
 |[],xs,o,i,h=>by
  rw [if_neg (by simp only [List.length_nil];omega)];rfl
 |v::vs,xs,o,i,h=>by
  simp only [List.length_cons] at h ⊢;show (setFs (xs.set o v) (o+1) vs).getD i ⟨#[]⟩=_;rw [setFs_get vs (xs.set o v) (o+1) i (by rw [List.length_set];omega)];by_cases h1:i=o
  ·subst h1;rw [if_neg b10,if_pos b10,getD_set _ _ _ _ _ b10,if_pos rfl];simp
  ·by_cases h2:o+1≤i∧i<o+1+vs.length
   ·rw [if_pos h2,if_pos b10,show i-o=(i-(o+1))+1 from by omega];simp
   ·rw [if_neg h2,if_neg b10,getD_set _ _ _ _ _ b10,if_neg h1]
theorem setFs_len:∀(vs xs:List ByteArray) (o:Nat),(setFs xs o vs).length=xs.length
 |[],_,_=>rfl
 |v::vs,xs,o=>by
  show (setFs (xs.set o v) (o+1) vs).length=_;rw [setFs_len vs,List.length_set]
theorem setFs_beg (n:Nat) (lst:List ByteArray) (h:lst.length≤n):setFs (List.replicate n ⟨#[]⟩) 0 lst=begF n lst:=by
 refine ext_getD ⟨#[]⟩ (by rw [setFs_len,begF_len,List.length_replicate]) fun i hi=>?_
 rw [setFs_len,List.length_replicate] at hi;rw [setFs_get _ _ _ _ (by rw [List.length_replicate];omega),begF_get n lst i hi];by_cases h2:i<lst.length
 ·rw [if_pos b10,Nat.sub_zero]
 ·rw [if_neg b10,getD_repl n i _ _ hi];simp [List.getD,h2]
theorem Mg.putFs {B:Nat} {l:Ly}:∀(vs:List ByteArray) (o:Nat) {W:World} {s:St},Mm B W l s→Mm B (W.setCells l.F o (vs.map Value.string)) l {s with fs:=setFs s.fs o vs}
 |[],_,_,_,h=>h
 |v::vs,o,W,s,h=>Mg.putFs vs (o+1) (h.putF o v)
theorem begK_set (scr:List (List Opr)) (n:Nat) (fs:List ByteArray) (d:De) (k:Nat) (hk:k<n):{begK scr n fs d k with h:=(begK scr n fs d k).h.set k ([fs.getD k ⟨#[]⟩],0)}=begK scr n fs d (k+1):=by
 have e:((List.range n).map fun i=>if i<k then ([fs.getD i ⟨#[]⟩],(0:Int)) else ([],0)).set k ([fs.getD k ⟨#[]⟩],0)=(List.range n).map fun i=>if i<k+1 then ([fs.getD i ⟨#[]⟩],(0:Int)) else ([],0):=by
  refine ext_getD ([],0) b11 fun i hi=>?_
  have hi:i<n:=by simpa using hi
  rw [getD_set _ _ _ _ _ (by simpa using hk)];by_cases h:i=k
  ·subst h;rw [if_pos rfl];simp only [List.getD,List.getElem?_map,List.getElem?_range hk,Option.map_some,Option.getD_some];rw [if_pos b10]
  ·rw [if_neg h];simp only [List.getD,List.getElem?_map,List.getElem?_range hi,Option.map_some,Option.getD_some];by_cases h2:i<k
   ·rw [if_pos h2,if_pos b10]
   ·rw [if_neg h2,if_neg b10]
 unfold begK;simp only;rw [e]
end Go.Proofs.YtimhaidiclbnhaaGreat.Ver
