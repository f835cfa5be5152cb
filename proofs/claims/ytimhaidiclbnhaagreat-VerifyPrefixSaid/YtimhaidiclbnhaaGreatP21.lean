import Derived.Test.YtimhaidiclbnhaaGreatP20
set_option linter.unusedSimpArgs false
set_option linter.unusedVariables false
set_option maxRecDepth 100000
open Go.ChangeShapes Go.WideShapes Go.ChangeAt Go.RowKit
namespace Go.Proofs.YtimhaidiclbnhaaGreat.Ver
open Des (Dv De Dn DIn DBlk DAns Vi At RowOf ints DSz)
open Ara (Ar ARow)
open Con (StrRow)
theorem stB_set_cut (L:List Sl) (i:Nat) (hi:i<L.length) (x:Sl):stB (L.set i x)=stB (L.take i)++((x.a.map Addr.block).toList++stB (L.drop (i+1))):=by
 unfold stB;rw [List.set_eq_take_append_cons_drop,if_pos hi,List.filterMap_append,List.filterMap_cons];cases x.a with
 |none=>simp
 |some a=>simp
theorem stB_cut (L:List Sl) (i:Nat) (hi:i<L.length):stB L=stB (L.take i)++(((L.getD i Sl.nil).a.map Addr.block).toList++stB (L.drop (i+1))):=by
 have h:=stB_set_cut L i hi (L.getD i Sl.nil);have e:L.getD i Sl.nil=L[i]:=by simp [List.getD,hi]
 rw [show L.set i (L.getD i Sl.nil)=L from by rw [e];exact List.set_getElem_self hi] at h;exact h
theorem nd_set (P:List Nat) (L:List Sl) (i:Nat) (hi:i<L.length) (x:Sl) (g:Nat) (hx:x.a.map Addr.block=some g) (h:(P++stB L).Nodup) (hg:g∉P++stB L∨(L.getD i Sl.nil).a.map Addr.block=some g):(P++stB (L.set i x)).Nodup:=by
 rw [stB_set_cut L i hi x,hx];rw [stB_cut L i hi] at h hg;generalize stB (L.take i)=A at *;generalize stB (L.drop (i+1))=C at *;generalize (L.getD i Sl.nil).a.map Addr.block=o at *;rcases hg with hg|hg
 ·cases o with
  |none=>simp only [Option.toList_none,List.nil_append,Option.toList_some,List.nodup_append,List.mem_append,List.cons_append,List.nodup_cons,List.mem_cons,not_or] at *;grind
  |some b=>simp only [Option.toList_none,List.nil_append,Option.toList_some,List.nodup_append,List.mem_append,List.cons_append,List.nodup_cons,List.mem_cons,not_or] at *;grind
 ·subst hg;exact h
theorem row_ne (L:List Sl) (h:(stB L).Nodup) (i j:Nat) (hi:i<L.length) (hj:j<L.length) (hne:i≠j) (p:Nat) (ha:(L.getD i Sl.nil).a.map Addr.block=some p) (hb:(L.getD j Sl.nil).a.map Addr.block=some p):False:=by
 unfold stB List.Nodup at h;rw [List.pairwise_filterMap,List.pairwise_iff_getElem] at h;have e1:L.getD i Sl.nil=L[i]:=by simp [List.getD,hi]
 have e2:L.getD j Sl.nil=L[j]:=by simp [List.getD,hj]
 rw [e1] at ha;rw [e2] at hb;rcases Nat.lt_or_gt_of_ne hne with h1|h1
 ·exact h i j hi hj h1 p ha p hb rfl
 ·exact h j i hj hi h1 p hb p ha rfl
theorem Im.vs {B:Nat} {W:World} {l:Ly} {s:St} {V V':List Nat} (h:Im B W l s V) (hv:∀b,b∈V'→b∈V∨W.heap.size≤b):Im B W l s V':=
 ⟨⟨h.di.di,fun b hb hm=>by rcases hv b hm with h1|h1;exact h.di.out b hb h1;have:=h.di.di.blk hb;omega⟩,h.dp,
  fun i hi=>⟨(h.ra i hi).1,fun q hq hm=>by
   rcases hv _ hm with h1|h1
   ·exact (h.ra i hi).2 q hq h1
   ·rcases (h.ra i hi).1 with ⟨h2,_⟩|⟨g,h2,_,h3,_⟩
    ·rw [h2] at hq;cases hq
    ·rw [h2] at hq;cases hq;have h4:g<W.heap.size:=h3;simp only at h1;omega⟩,
  fun i hi=>⟨(h.rh i hi).1,fun q hq hm=>by
   rcases hv _ hm with h1|h1
   ·exact (h.rh i hi).2 q hq h1
   ·rcases (h.rh i hi).1 with ⟨h2,_⟩|⟨g,h2,_,h3,_⟩
    ·rw [h2] at hq;cases hq
    ·rw [h2] at hq;cases hq;have h4:g<W.heap.size:=h3;simp only at h1;omega⟩,h.sc⟩
theorem own_blk (a:Option Addr) (n c:Nat):(Value.slice a n c).ownBlock=a.map Addr.block:=by cases a<;>rfl
section
variable {mc:Ly→St→List Value} {B:Nat} {W W1:World} {l:Ly} {s:St}
theorem vs_set (h:Mg mc B W l s) (i:Nat) (hi:i<s.st.length) (x:Sl) (g:Nat) (hx:x.a.map Addr.block=some g) (hat:(l.st.getD i Sl.nil).a.map Addr.block=some g∨g=W.heap.size):∀b,b∈vs {l with st:=l.st.set i x}→b∈vs l∨W.heap.size≤b:=by
 intro b hb;unfold vs at hb ⊢;have hil:i<l.st.length:=by rw [h.la'];exact hi
 rcases List.mem_append.1 hb with hb|hb
 ·exact Or.inl (List.mem_append.2 (Or.inl hb))
 ·simp only at hb;rw [stB_set_cut l.st i hil x,hx] at hb;have hc:=stB_cut l.st i hil;rcases List.mem_append.1 hb with h1|h1
  ·exact Or.inl (List.mem_append.2 (Or.inr (by rw [hc];exact List.mem_append.2 (Or.inl h1))))
  ·rcases List.mem_append.1 h1 with h2|h2
   ·simp at h2;subst h2;rcases hat with h3|h3
    ·exact Or.inl (List.mem_append.2 (Or.inr (by rw [hc,h3];simp)))
    ·exact Or.inr b10
   ·exact Or.inl (List.mem_append.2 (Or.inr (by rw [hc];exact List.mem_append.2 (Or.inr (List.mem_append.2 (Or.inr h2))))))
theorem Mg.putS (h:Mg mc B W l s) (i:Nat) (hi:i<s.st.length) (hsf:s.st.length=s.fs.length) (z:Int) (g cap:Nat)
 (hown:W1.ownsRow B 3 1 (.slice (some (g 0)) ((s.st.getD i []).length+1) cap) ((s.st.getD i []).length+1) (ints (s.st.getD i [])++[.int .i64 z]))
 (hgrow:W.grownBy W1 (Value.slice (l.st.getD i Sl.nil).a (s.st.getD i []).length (l.st.getD i Sl.nil).c).ownBlock)
 (hat:(Value.slice (l.st.getD i Sl.nil).a (s.st.getD i []).length (l.st.getD i Sl.nil).c).ownBlock=some g∨g=W.heap.size)
 (hm:mc {l with st:=l.st.set i ⟨some ⟨g,0,none⟩,cap⟩} {s with st:=s.st.set i (s.st.getD i []++[z])}=mc l s:=by rfl):
 Mg mc B (W1.setCell (l.S i) (.slice (some (g 0)) ((s.st.getD i []).length+1) cap)) {l with st:=l.st.set i ⟨some ⟨g,0,none⟩,cap⟩} {s with st:=s.st.set i (s.st.getD i []++[z])}∧Vk (vs l) W (W1.setCell (l.S i) (.slice (some (g 0)) ((s.st.getD i []).length+1) cap))∧(∀b,b∈vs {l with st:=l.st.set i ⟨some ⟨g,0,none⟩,cap⟩}→b∈vs l∨W.heap.size≤b):=by
 rw [own_blk] at hgrow hat;have hil:i<l.st.length:=by rw [h.la'];exact hi
 have hrow:∀q,(l.st.getD i Sl.nil).a.map Addr.block=some q→q∈stB l.st:=fun q hq=>by
  rw [stB_cut l.st i hil,hq];simp
 have hvsS:∀q,q∈stB l.st→q∈vs l:=fun q hq=>List.mem_append.2 (Or.inr hq);have hk1:Vk (vs l) W W1:=⟨hgrow.os,hgrow.tape,hgrow.output,hgrow.size,fun k hk hlt=>hgrow.block k hlt fun e=>hk (hvsS k (hrow k e.symm))⟩
 have hk2:Vk (vs l) W (W1.setCell (l.S i) (.slice (some (g 0)) ((s.st.getD i []).length+1) cap)):=hk1.trans (Vk.set W1 _ _ _ (mvs l).2.2.2.2.2.2.1);have hvs:=vs_set h i hi ⟨some ⟨g,0,none⟩,cap⟩ g rfl hat;refine ⟨?_,hk2,hvs⟩;obtain ⟨⟨a1,a2,a3,a4,a5,a6,a7,a8⟩,⟨b2,b3,b4,b5,b6,b7,b8⟩,⟨c3,c4,c5,c6,c7,c8⟩,⟨d4,d5,d6,d7,d8⟩,⟨e5,e6,e7,e8⟩,⟨f6,f7,f8⟩,⟨g7,g8⟩,_⟩:=h.ne;obtain ⟨n1,n2,n3,n4,n5,n6,n7,n8,n9⟩:=h.nst;have o:∀{c:Nat} {cs:List Value},At W c cs→c∉stB l.st→At W1 c cs:=fun {c cs} h1 hn=>At.keepB h1 hgrow.size (hgrow.block c h1.hi fun e=>hn (hrow c e.symm));have o2:∀{c:Nat} {cs:List Value},At W c cs→c∉stB l.st→c≠l.S→At (W1.setCell (l.S i) (.slice (some (g 0)) ((s.st.getD i []).length+1) cap)) c cs:=fun {c cs} h1 hn hne=>(o h1 hn).setOther (x:=⟨l.S,i,none⟩) hne _;have hS2:At (W1.setCell (l.S i) (.slice (some (g 0)) ((s.st.getD i []).length+1) cap)) l.S ((slC l.st s.st).set i (.slice (some (g 0)) ((s.st.getD i []).length+1) cap)):=(o h.S n7).set i _;have hnew:∀b,b∈vs {l with st:=l.st.set i ⟨some ⟨g,0,none⟩,cap⟩}→B≤b:=fun b hb=>by
  rcases hvs b hb with h1|h1
  ·exact h.lo b h1
  ·have:=h.hB;omega
 have hvx:∀b,b∈vx {l with st:=l.st.set i ⟨some ⟨g,0,none⟩,cap⟩}→b∈vx l∨W.heap.size≤b:=fun b hb=>by
  rcases List.mem_append.1 hb with h1|h1
  ·exact (hvs b h1).imp vs_vx id
  ·exact Or.inl (List.mem_append.2 (Or.inr h1))
 have hv2:∀b,b∈vx l++vx {l with st:=l.st.set i ⟨some ⟨g,0,none⟩,cap⟩}→b∈vx l∨W.heap.size≤b:=fun b hb=>by
  rcases List.mem_append.1 hb with h1|h1
  ·exact Or.inl h1
  ·exact hvx b h1
 have hlo2:∀b,b∈vx l++vx {l with st:=l.st.set i ⟨some ⟨g,0,none⟩,cap⟩}→B≤b:=fun b hb=>by
  rcases hv2 b hb with h1|h1
  ·exact h.lox b h1
  ·have:=h.hB;omega
 have him:Im B (W1.setCell (l.S i) (.slice (some (g 0)) ((s.st.getD i []).length+1) cap)) l s (vx {l with st:=l.st.set i ⟨some ⟨g,0,none⟩,cap⟩}):=
  ((h.im.vs hv2).keep (hk2.more fun b hb=>Or.inl (List.mem_append.2 (Or.inl (vs_vx hb)))) hlo2 h.hB).vs fun b hb=>Or.inl (List.mem_append.2 (Or.inr hb))
 refine ⟨⟨him.di,him.dp,him.ra,him.rh,him.sc⟩,?_,o2 h.f n2 b6,o2 h.a n3 c6,o2 h.la n4 d6,o2 h.r n5 e6,o2 h.h n6 f6,?_,o2 h.n n8 g7.symm,o2 h.b n9 g8.symm,?_,?_,hnew,Nat.le_trans h.hB hk2.size,?_,h.lh',h.lr',fun b hb=>⟨Nat.lt_of_lt_of_le (h.hx b hb).1 hk2.size,(h.hx b hb).2⟩⟩
 ·rw [hm];exact o2 h.m n1 a6
 ·have e:=slC_set l.st s.st i ⟨some ⟨g,0,none⟩,cap⟩ (s.st.getD i []++[z]) hi h.la';rw [List.length_append,List.length_singleton] at e;rw [e] at hS2;exact hS2
 ·intro j hj;simp only [List.length_set] at hj;simp only;rw [getD_set _ _ _ _ _ hil,getD_set _ _ _ _ _ hi];have hgS:g≠l.S:=fun e=>by
   rcases hat with h1|h1
   ·exact n7 (by rw [←e];exact hrow g h1)
   ·have:=h.S.hi;omega
  by_cases hij:j=i
  ·subst hij;rw [if_pos rfl,if_pos rfl];have e:ints (s.st.getD j []++[z])=ints (s.st.getD j [])++[.int .i64 z]:=by simp [ints]
   rw [e, List.length_append, List.length_singleton]; exact own_keepB hown fun q hq => Below.heap_setCell W1 ⟨l.S, j, none⟩ _ q (fun e=>by
    simp only [Value.ownBlock,Option.some.injEq] at hq;exact hgS (hq.trans e))
  ·rw [if_neg hij,if_neg hij];have hjl:j<l.st.length:=by rw [h.la'];exact hj
   refine own_keepB (h.rs j hj) fun q hq=>?_
   have hq2:(l.st.getD j Sl.nil).a.map Addr.block=some q:=by rw [←own_blk];exact hq
   have hqs:q∈stB l.st:=by rw [stB_cut l.st j hjl,hq2];simp
   have hqS:q≠l.S:=fun e=>n7 (by rw [←e];exact hqs);rw [Below.heap_setCell W1 ⟨l.S,i,none⟩ _ q hqS];exact hgrow.block q ((h.rs j hj).lt q hq).2 fun e=>row_ne l.st (by have:=h.nd;unfold vs at this;exact (List.nodup_append.1 this).2.1) j i hjl hil hij q hq2 e.symm
 ·exact nd_set _ _ _ hil _ g rfl h.nd (by
   rcases hat with h1|h1
   ·exact Or.inr h1
   ·exact Or.inl fun hm=>by have:=h.hi g hm;omega)
 ·simp [h.la']
theorem Mg.grow (h:Mg mc B W l s) {row:Option Nat} (hgrow:W.grownBy W1 row) (hrow:∀g,row=some g→g∈l.ex∧g∉vs l) (ex':List Nat) (hex:∀b,b∈ex'→(b∈l.ex∨W.heap.size≤b)∧b<W1.heap.size) (hm:mc {l with ex:=ex'} s=mc l s:=by rfl):Mg mc B W1 {l with ex:=ex'} s:=by
 have hk:Vk (vx l) W W1:=⟨hgrow.os,hgrow.tape,hgrow.output,hgrow.size,fun k hk hlt=>hgrow.block k hlt fun e=>hk (List.mem_append.2 (Or.inr (hrow k e.symm).1))⟩
 have hv:∀b,b∈vx l++vx {l with ex:=ex'}→b∈vx l∨W.heap.size≤b:=fun b hb=>by
  rcases List.mem_append.1 hb with h1|h1
  ·exact Or.inl h1
  ·rcases List.mem_append.1 h1 with h2|h2
   ·exact Or.inl (vs_vx h2)
   ·exact (hex b h2).1.imp (fun h3=>List.mem_append.2 (Or.inr h3)) id
 have hlo:∀b,b∈vx l++vx {l with ex:=ex'}→B≤b:=fun b hb=>by
  rcases hv b hb with h1|h1
  ·exact h.lox b h1
  ·have:=h.hB;omega
 have him:Im B W1 l s (vx {l with ex:=ex'}):=((h.im.vs hv).keep (hk.more fun b hb=>Or.inl (List.mem_append.2 (Or.inl hb))) hlo h.hB).vs fun b hb=>Or.inl (List.mem_append.2 (Or.inr hb));have o:∀{c:Nat} {cs:List Value},At W c cs→c∈vs l→At W1 c cs:=fun {c cs} h1 hn=>At.keepB h1 hgrow.size (hgrow.block c h1.hi fun e=>(hrow c e.symm).2 hn);obtain ⟨m1,m2,m3,m4,m5,m6,m7,m8,m9⟩:=mvs l;exact ⟨⟨him.di,him.dp,him.ra,him.rh,him.sc⟩,(by rw [hm];exact o h.m m1),o h.f m2,o h.a m3,o h.la m4,o h.r m5,o h.h m6,o h.S m7,o h.n m8,o h.b m9,
  fun i hi=>own_keepB (h.rs i hi) fun q hq=>hgrow.block q ((h.rs i hi).lt q hq).2 fun e=>(hrow q e.symm).2 (List.mem_append.2 (Or.inr (h.sn hi hq))),h.nd,h.lo,Nat.le_trans h.hB hgrow.size,h.la',h.lh',h.lr',
  fun b hb=>⟨(hex b hb).2,hlo b (List.mem_append.2 (Or.inr (List.mem_append.2 (Or.inr hb))))⟩⟩
end
theorem fs_at (l:List ByteArray) (f:Nat) (hf:f<l.length):(l.map Value.string)[f]? =some (.string (l.getD f ⟨#[]⟩)):=by simp [hf]
def chS (s:St) (f:Nat) (d:ByteArray):St:={s with fs:=s.fs.set f d,h:=s.h.set f ((s.h.getD f ([],0)).1++[d],(s.h.getD f ([],0)).2)}
set_option maxHeartbeats 8000000 in
theorem change_any (B:Nat) (l:Ly) (s:St) (p:Int) (o:Opr) (x:Ev) (f:Nat) (d:ByteArray) (W:World) (h:Mm B W l s) (hf:f<s.fs.length) (hfh:f<s.h.length) (hn:s.fs.length≤1000) (hl:(s.h.getD f ([],0)).1.length≤10000):
 Calls Tryz.prog 97 #[stepV l.M p o x,f,.string d] W fun e w'=>∃hs:List Sl,e=.returned (.tuple #[])∧Mm B w' {l with hs:=hs} (chS s f d)∧Vk (vs l) W w':=by
 have HM:=Hd h;obtain ⟨L,q,hp⟩:∃L q,s.h.getD f ([],0)=(L,q):=⟨_,_,rfl⟩
 obtain ⟨a,c,hsl⟩:∃a c,l.hs.getD f Sl.nil=⟨a,c⟩:=⟨_,_,rfl⟩
 have HCH:Hid (∀W',Mm B W' l {s with fs:=s.fs.set f d}→Calls Tryz.prog 37 #[.agg #[.slice a L.length c,.int .i64 q],.string d] W' fun e w'=>∃a' cap',e=.returned (.agg #[.slice a' (L.length+1) cap',.int .i64 q])∧StrRow W'.heap.size a' cap' (L++[d]) w'∧Below W' W' w'):=Hd fun W' hm=>by
  have h1:=(hm.im.rh f hfh).1;rw [hsl] at h1;have h2:StrRow 0 a c L W':=by
   have e:(s.h.getD f ([],0)).1=L:=by rw [hp]
   rw [←e];exact h1
  exact Con.change_any 0 _ _ _ _ d W' h2 (by rw [hp] at hl;exact hl)
 have HH:Hid (∀W',Mm B W' l {s with fs:=s.fs.set f d}→(W'.cell? (l.H (f*2))=some (.slice a L.length c)∧W'.cell? (l.H (f*2+1))=some (.int .i64 q))∧W'.frozen? (l.H (f*2))=false∧W'.frozen? (l.H (f*2+1))=false∧l.H<W'.heap.size):=Hd fun W' hm=>by
  obtain ⟨h1,h2⟩:=hC_at l.hs s.h f hfh;rw [hp,hsl] at h1;exact cl71
 have HPP:Hid (chS s f d={s with fs:=s.fs.set f d,h:=s.h.set f (L++[d],q)}):=Hd (by unfold chS;rw [hp]);obtain ⟨cs,hcs⟩:∃cs,cs=stepC l.M p o x:=⟨_,rfl⟩
 have HCS:=Hd hcs;have HT:=Hd (At.new W cs 122);have HB:Hid (Below W W (W.alloc (.cells cs.toArray 122))):=Hd (Br.alloc Nr _);have HFH:=Hd hfh;unfold stepV;rw [←hcs];clear hcs h hp hsl hl hfh;generalize chS s f d=s9 at *;go_enter Tryz.func97,Tryz.ntmps97;go_upto_region 1 with (fail)
 generalize W.alloc (.cells cs.toArray 122)=W1 at *;have hM1:=HM.out.below HB.out;have t0:=HT.out.cell 0 (.pointer (some (l.M 0))) b13;have mF:=hM1.cF;have hfI:(f:Int)<(s.fs.length:Int):=b10;have hnI:(s.fs.length:Int)≤1000:=b10;have f0:=hM1.f.free f (by rw [List.length_map];exact hf);have f1:=hM1.f.hi;have f2:=hM1.f.cell f _ (fs_at s.fs f hf);have HK:=Hd (hM1.putF f d);have HTF:Hid (At (W1.setCell (l.F f) (.string d)) W.heap.size cs):=Hd (HT.out.setOther (x:=⟨l.F,f,none⟩) (by have:=HM.out.hi l.F (mvs l).2.1;show W.heap.size≠l.F;omega) _);have HV:Hid (Vk (vs l) W (W1.setCell (l.F f) (.string d))):=Hd ((Vk.ofBelow HB.out).trans (Vk.set _ _ _ _ (mvs l).2.1));clear hM1;go_upto_region 2 with (fail)
 generalize W1.setCell (l.F f) (.string d)=W2 at *;replace HK:Hid (Mm B W2.drew l {s with fs:=s.fs.set f d}):=Hd (HK.out.below Br.drew);replace HTF:Hid (At W2.drew W.heap.size cs):=Hd (Des.At.drew HTF.out);clear t0 mF f0 f1 f2;have t0:=HTF.out.cell 0 (.pointer (some (l.M 0))) b13;have mH:W2.drew.cell? (l.M 27)=some (.slice (some (l.H 0)) s.fs.length s.fs.length):=b96;obtain ⟨⟨g0,g1⟩,g2,g3,g4⟩:=HH.out _ HK.out;have HKd:=HK;have e1:¬W.heap.size=l.H:=by have:=HM.out.hi l.H (mvs l).2.2.2.2.2.1;omega
 have e2:¬l.H=W.heap.size:=fun e=>e1 e.symm;have e3:¬l.M=l.H:=HM.out.ne.1.2.2.2.2.1;have e4:¬l.H=l.M:=fun e=>e3 e.symm
 (first|go_region_with (first|(go_at_call 37;refine (HCH.out _ HK.out).mono ?_;rintro e w3 ⟨a',c',rfl,hs,hb⟩;have HS:=Hd hs;have HBB:=Hd hb;replace HTF:=Hd (HTF.out.below hb HTF.out.hi);replace HK:=Hd (HK.out.below hb);clear hs hb t0 mH g0 g1 g2 g3 g4;have t0:=HTF.out.cell 0 (.pointer (some (l.M 0))) b13;have mH:w3.cell? (l.M 27)=some (.slice (some (l.H 0)) s.fs.length s.fs.length):=b96;obtain ⟨⟨g0,g1⟩,g2,g3,g4⟩:=HH.out _ HK.out))|fail)
 all_goals
  go_wp2_with fail; go_end0; refine ⟨l.hs.set f ⟨a', c'⟩, rfl, ?_, ((HV.out.trans (Vk.ofBelow Br.drew)).trans (Vk.ofBelow HBB.out)).trans ((Vk.set _ _ _ _ (mvs l).2.2.2.2.2.1).trans (Vk.set _ _ _ _ (mvs l).2.2.2.2.2.1))⟩; have hput := HK.out.putH f HFH.out a' c' (L ++ [d]) q (Con.StrRow.mono HS.out (Nat.zero_le _)) (fun q hq hm=>by
   rcases HS.out with ⟨h2,_⟩|⟨g,h2,h3,_⟩
   ·rw [h2] at hq;cases hq
   ·rw [h2] at hq;cases hq;have h1:g<W2.drew.heap.size:=HKd.out.hix _ hm;omega)
  rw [HPP.out];rw [List.length_append] at hput;exact hput
end Go.Proofs.YtimhaidiclbnhaaGreat.Ver
