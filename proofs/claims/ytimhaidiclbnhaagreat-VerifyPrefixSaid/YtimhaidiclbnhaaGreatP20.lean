import Derived.Test.YtimhaidiclbnhaaGreatP19
set_option linter.unusedSimpArgs false
set_option linter.unusedVariables false
set_option maxRecDepth 100000
open Go.ChangeShapes Go.WideShapes Go.ChangeAt Go.RowKit
namespace Go.Proofs.YtimhaidiclbnhaaGreat.Ver
open Des (Dv De Dn DIn DBlk DAns Vi At RowOf ints DSz numE numV lookV)
open Ara (Ar ARow)
open Con (StrRow)
section
variable {mc:Ly→St→List Value} {B:Nat} {W W':World} {l:Ly} {s:St}
theorem mem_stB {l:List Sl} {i:Nat} (hi:i<l.length) {q:Nat} {n:Nat} (h:(Value.slice (l.getD i Sl.nil).a n (l.getD i Sl.nil).c).ownBlock=some q):q∈stB l:=by
 have e:l.getD i Sl.nil=l[i]:=by simp [List.getD,hi]
 rw [e] at h;unfold stB;refine List.mem_filterMap.2 ⟨l[i],List.getElem_mem hi,?_⟩;cases ha:l[i].a with
 |none=>rw [ha] at h;cases h
 |some a=>rw [ha] at h;simpa [Value.ownBlock] using h
theorem Mg.sn (h:Mg mc B W l s) {i:Nat} (hi:i<s.st.length) {q:Nat} (hq:(Value.slice (l.st.getD i Sl.nil).a (s.st.getD i []).length (l.st.getD i Sl.nil).c).ownBlock=some q):q∈stB l.st:=
 mem_stB (by rw [h.la'];exact hi) hq
theorem Mg.hi (h:Mg mc B W l s):∀b,b∈vs l→b<W.heap.size:=by
 intro b hb;unfold vs at hb;rcases List.mem_append.1 hb with hb|hb
 ·simp only [List.mem_cons,List.not_mem_nil,or_false] at hb;rcases hb with rfl|rfl|rfl|rfl|rfl|rfl|rfl|rfl|rfl
  ·exact h.m.hi
  ·exact h.f.hi
  ·exact h.a.hi
  ·exact h.la.hi
  ·exact h.r.hi
  ·exact h.h.hi
  ·exact h.S.hi
  ·exact h.n.hi
  ·exact h.b.hi
 ·unfold stB at hb;obtain ⟨x,hx,hxb⟩:=List.mem_filterMap.1 hb;obtain ⟨i,hi,rfl⟩:=List.getElem_of_mem hx;have hi2:i<s.st.length:=by rw [←h.la'];exact hi
  have e:l.st.getD i Sl.nil=l.st[i]:=by simp [List.getD,hi]
  have h1:=h.rs i hi2;rw [e] at h1;cases ha:l.st[i].a with
  |none=>rw [ha] at hxb;cases hxb
  |some a=>
   rw [ha] at hxb h1;exact (h1.lt b (by simpa [Value.ownBlock] using hxb)).2
theorem Mg.hix (h:Mg mc B W l s):∀b,b∈vx l→b<W.heap.size:=fun b hb=>by
 rcases List.mem_append.1 hb with h1|h1
 ·exact h.hi b h1
 ·exact (h.hx b h1).1
theorem Mg.ne (h:Mg mc B W l s):(l.M≠l.F∧l.M≠l.A∧l.M≠l.L∧l.M≠l.R∧l.M≠l.H∧l.M≠l.S∧l.M≠l.N∧l.M≠l.B)∧(l.F≠l.A∧l.F≠l.L∧l.F≠l.R∧l.F≠l.H∧l.F≠l.S∧l.F≠l.N∧l.F≠l.B)∧(l.A≠l.L∧l.A≠l.R∧l.A≠l.H∧l.A≠l.S∧l.A≠l.N∧l.A≠l.B)∧(l.L≠l.R∧l.L≠l.H∧l.L≠l.S∧l.L≠l.N∧l.L≠l.B)∧(l.R≠l.H∧l.R≠l.S∧l.R≠l.N∧l.R≠l.B)∧(l.H≠l.S∧l.H≠l.N∧l.H≠l.B)∧(l.S≠l.N∧l.S≠l.B)∧l.N≠l.B:=by
 have:=h.nd;simp only [vs,List.cons_append,List.nil_append,List.nodup_cons,List.mem_cons,not_or] at this;obtain ⟨⟨a1,a2,a3,a4,a5,a6,a7,a8,_⟩,⟨b1,b2,b3,b4,b5,b6,b7,_⟩,⟨c1,c2,c3,c4,c5,c6,_⟩,⟨d1,d2,d3,d4,d5,_⟩,⟨e1,e2,e3,e4,_⟩,⟨f1,f2,f3,_⟩,⟨g1,g2,_⟩,⟨h1,_⟩,_⟩:=this;exact ⟨⟨a1,a2,a3,a4,a5,a6,a7,a8⟩,⟨b1,b2,b3,b4,b5,b6,b7⟩,⟨c1,c2,c3,c4,c5,c6⟩,⟨d1,d2,d3,d4,d5⟩,⟨e1,e2,e3,e4⟩,⟨f1,f2,f3⟩,⟨g1,g2⟩,h1⟩
theorem Mg.nst (h:Mg mc B W l s):l.M∉stB l.st∧l.F∉stB l.st∧l.A∉stB l.st∧l.L∉stB l.st∧l.R∉stB l.st∧l.H∉stB l.st∧l.S∉stB l.st∧l.N∉stB l.st∧l.B∉stB l.st:=by
 have:=h.nd;simp only [vs,List.cons_append,List.nil_append,List.nodup_cons,List.mem_cons,not_or] at this;obtain ⟨⟨_,_,_,_,_,_,_,_,a⟩,⟨_,_,_,_,_,_,_,b⟩,⟨_,_,_,_,_,_,c⟩,⟨_,_,_,_,_,d⟩,⟨_,_,_,_,e⟩,⟨_,_,_,f⟩,⟨_,_,g⟩,⟨_,i⟩,j,_⟩:=this;exact ⟨a,b,c,d,e,f,g,i,j⟩
theorem mvs (l:Ly):l.M∈vs l∧l.F∈vs l∧l.A∈vs l∧l.L∈vs l∧l.R∈vs l∧l.H∈vs l∧l.S∈vs l∧l.N∈vs l∧l.B∈vs l:=by simp [vs]
structure Rest (mc:Ly→St→List Value) (B:Nat) (W:World) (l:Ly) (s:St) (c:Nat):Prop where
 im:Im B W l s (vx l)
 m:c≠l.M→At W l.M (mc l s)
 f:c≠l.F→At W l.F (s.fs.map Value.string)
 a:c≠l.A→At W l.A (ints s.fa)
 la:c≠l.L→At W l.L (ints s.la)
 r:c≠l.R→At W l.R (slC l.ar s.ar)
 h:c≠l.H→At W l.H (hC l.hs s.h)
 S:c≠l.S→At W l.S (slC l.st s.st)
 n:c≠l.N→At W l.N (ints s.fin)
 b:c≠l.B→At W l.B (ints s.bg)
 rs:c∉stB l.st→∀i,i<s.st.length→W.ownsRow B 3 1 (.slice (l.st.getD i Sl.nil).a (s.st.getD i []).length (l.st.getD i Sl.nil).c) (s.st.getD i []).length (ints (s.st.getD i []))
 hB:B≤W.heap.size
 hx:∀b,b∈l.ex→b<W.heap.size∧B≤b
theorem Mg.rest (h:Mg mc B W l s) {b:Nat} (hb:b∈vs l) (hk:Vk [b] W W'):Rest mc B W' l s b:=by
 have hk2:Vk (vx l) W W':=hk.more fun c hc=>by simp at hc;subst hc;exact Or.inl (vs_vx hb)
 have o:∀{c:Nat} {cs:List Value},At W c cs→b≠c→At W' c cs:=fun h1 hne=>At.keepB h1 hk.size (hk.block _ (by simp;exact fun e=>hne e.symm) h1.hi);exact ⟨h.im.keep hk2 h.lox h.hB,o h.m,o h.f,o h.a,o h.la,o h.r,o h.h,o h.S,o h.n,o h.b,
  fun hn i hi=>own_keepB (h.rs i hi) fun q hq=>hk.block q (by simp;rintro rfl;exact hn (h.sn hi hq)) ((h.rs i hi).lt q hq).2,Nat.le_trans h.hB hk.size,fun b hb2=>⟨Nat.lt_of_lt_of_le (h.hx b hb2).1 hk.size,(h.hx b hb2).2⟩⟩
theorem Mg.putO (h:Mm B W l s) (y:Dv) (hy:Vi W (vx l) y):
 Mm B ((W.setCell (l.M 24) (.slice y.oa y.o.length y.oc)).setCell (l.M 25) (.slice y.ta y.t.length y.tc)) {l with x:=y} {s with d:=y.pl}:=by
 obtain ⟨⟨a1,a2,a3,a4,a5,a6,a7,a8⟩,_⟩:=h.ne;have hk:Vk [l.M] W ((W.setCell (l.M 24) (.slice y.oa y.o.length y.oc)).setCell (l.M 25) (.slice y.ta y.t.length y.tc)):=(Vk.set W _ _ _ b11).trans (Vk.set _ _ _ _ b11);have hr:=h.rest (mvs l).1 hk;exact ⟨⟨(hy.set (vs_vx (mvs l).1) 24 _).set (vs_vx (mvs l).1) 25 _,rfl,hr.im.ra,hr.im.rh,hr.im.sc⟩,(h.m.set 24 _).set 25 _,hr.f a1,hr.a a2,hr.la a3,hr.r a4,hr.h a5,hr.S a6,hr.n a7,hr.b a8,hr.rs h.nst.1,h.nd,h.lo,hr.hB,h.la',h.lh',h.lr',hr.hx⟩
theorem Mg.putFg (h:Mg mc B W l s) (f:Nat) (d:ByteArray) (hm:mc l {s with fs:=s.fs.set f d}=mc l s):
 Mg mc B (W.setCell (l.F f) (.string d)) l {s with fs:=s.fs.set f d}:=by
 obtain ⟨⟨a1,_⟩,⟨b2,b3,b4,b5,b6,b7,b8⟩,_⟩:=h.ne;have hk:Vk [l.F] W (W.setCell (l.F f) (.string d)):=Vk.set W _ _ _ b11;have hr:=h.rest (mvs l).2.1 hk;refine ⟨⟨hr.im.di,hr.im.dp,hr.im.ra,hr.im.rh,hr.im.sc⟩,?_,?_,hr.a b2,hr.la b3,hr.r b4,hr.h b5,hr.S b6,hr.n b7,hr.b b8,hr.rs h.nst.2.1,h.nd,h.lo,hr.hB,h.la',h.lh',h.lr',hr.hx⟩
 ·rw [hm];exact hr.m a1.symm
 ·have:=h.f.set f (.string d);rwa [←List.map_set] at this
theorem Mg.putF (h:Mm B W l s) (f:Nat) (d:ByteArray):Mm B (W.setCell (l.F f) (.string d)) l {s with fs:=s.fs.set f d}:=
 Mg.putFg h f d b27
end
theorem slC_len {α:Type} (a:List Sl) (l:List (List α)):(slC a l).length=l.length:=by simp [slC]
theorem slC_at {α:Type} (a:List Sl) (l:List (List α)) (i:Nat) (hi:i<l.length):(slC a l)[i]? =some (.slice (a.getD i Sl.nil).a (l.getD i []).length (a.getD i Sl.nil).c):=by
 simp [slC,List.getElem?_range hi]
theorem getD_set {α:Type} (l:List α) (i j:Nat) (x d:α) (hi:i<l.length):(l.set i x).getD j d=if j=i then x else l.getD j d:=by
 rw [List.getD_eq_getElem?_getD,List.getElem?_set];by_cases h:j=i
 ·subst h;simp [hi]
 ·rw [if_neg h,if_neg (fun e=>h e.symm),List.getD_eq_getElem?_getD]
theorem slC_set {α:Type} (a:List Sl) (l:List (List α)) (i:Nat) (x:Sl) (y:List α) (hi:i<l.length) (ha:a.length=l.length):(slC a l).set i (.slice x.a y.length x.c)=slC (a.set i x) (l.set i y):=by
 apply List.ext_getElem?;intro k;rw [List.getElem?_set];by_cases hk:k<l.length
 ·rw [slC_at (a.set i x) (l.set i y) k (by simpa using hk),getD_set _ _ _ _ _ b10,getD_set _ _ _ _ _ hi];by_cases h:i=k
  ·subst h;simp [slC_len,hi]
  ·rw [if_neg h,if_neg (fun e=>h e.symm),if_neg (fun e=>h e.symm),slC_at a l k hk]
 ·rw [List.getElem?_eq_none (by rw [slC_len];simpa using hk)];by_cases h:i=k
  ·omega
  ·rw [if_neg h,List.getElem?_eq_none (by rw [slC_len];simpa using hk)]
theorem hC_len (a:List Sl) (l:List (List ByteArray×Int)):(hC a l).length=l.length*2:=by
 unfold hC;rw [List.length_flatMap];have:∀n:Nat,((List.range n).map fun i=>([.slice (a.getD i Sl.nil).a (l.getD i ([],0)).1.length (a.getD i Sl.nil).c,(l.getD i ([],0)).2]:List Value).length).sum=n*2:=by
  intro n
  induction n with
  |zero=>rfl
  |succ n ih=>rw [List.range_succ,List.map_append,List.sum_append,ih];simp;omega
 exact this _
theorem flat2_at (f:Nat→List Value) (hf:∀i,(f i).length=2) (n i j:Nat) (hi:i<n) (hj:j<2):((List.range n).flatMap f)[i*2+j]? =(f i)[j]?:=by
 have hl:∀n,((List.range n).flatMap f).length=n*2:=by
  intro n
  induction n with
  |zero=>rfl
  |succ n ih=>rw [List.range_succ,List.flatMap_append,List.length_append,ih];simp [hf];omega
 induction n with
 |zero=>omega
 |succ n ih=>
  rw [List.range_succ,List.flatMap_append];by_cases h:i<n
  ·rw [List.getElem?_append_left (by rw [hl];omega)];exact ih h
  ·obtain rfl:i=n:=b10;rw [List.getElem?_append_right (by rw [hl];omega),hl];simp
theorem hC_at (a:List Sl) (l:List (List ByteArray×Int)) (i:Nat) (hi:i<l.length):(hC a l)[i*2]? =some (.slice (a.getD i Sl.nil).a (l.getD i ([],0)).1.length (a.getD i Sl.nil).c)∧(hC a l)[i*2+1]? =some ((l.getD i ([],0)).2:U):=by
 unfold hC;exact ⟨(flat2_at _ (fun _=>rfl) l.length i 0 hi b10).trans rfl,(flat2_at _ (fun _=>rfl) l.length i 1 hi b10).trans rfl⟩
theorem hC_set (a:List Sl) (l:List (List ByteArray×Int)) (i:Nat) (x:Sl) (y:List ByteArray) (q:Int) (hi:i<l.length) (ha:a.length=l.length):((hC a l).set (i*2) (.slice x.a y.length x.c)).set (i*2+1) (.int .i64 q)=hC (a.set i x) (l.set i (y,q)):=by
 apply List.ext_getElem?;intro k;rw [List.getElem?_set,List.getElem?_set,List.length_set,hC_len];by_cases hk:k<l.length*2
 ·have hk2:k/2<(l.set i (y,q)).length:=by rw [List.length_set];omega
  obtain ⟨h0,h1⟩:=hC_at (a.set i x) (l.set i (y,q)) (k/2) hk2;obtain ⟨g0,g1⟩:=hC_at a l (k/2) b10;rw [getD_set _ _ _ _ _ b10,getD_set _ _ _ _ _ hi] at h0;rw [getD_set _ _ _ _ _ hi] at h1;rcases Nat.mod_two_eq_zero_or_one k with hm|hm
  ·have e:k/2*2=k:=b10;rw [e] at h0 g0;rw [if_neg b10,h0];by_cases h:i*2=k
   ·rw [if_pos h,if_pos b10,if_pos b10,if_pos b10]
   ·rw [if_neg h,if_neg b10,if_neg b10,g0]
  ·have e:k/2*2+1=k:=b10;rw [e] at h1 g1;rw [h1];by_cases h:i*2+1=k
   ·rw [if_pos h,if_pos b10,if_pos b10]
   ·rw [if_neg h,if_neg b10,if_neg b10,g1]
 ·rw [if_neg b10,if_neg b10,List.getElem?_eq_none (by rw [hC_len];omega),List.getElem?_eq_none (by rw [hC_len,List.length_set];omega)]
section
variable {mc:Ly→St→List Value} {B:Nat} {W W':World} {l:Ly} {s:St}
theorem Mg.putH (h:Mg mc B W l s) (f:Nat) (hf:f<s.h.length) (a:Option Addr) (c:Nat) (L:List ByteArray) (q:Int) (hs:StrRow 0 a c L W) (ho:∀q,a=some q→q.block∉vx l) (hm:mc {l with hs:=l.hs.set f ⟨a,c⟩} {s with h:=s.h.set f (L,q)}=mc l s:=by rfl):
 Mg mc B ((W.setCell (l.H (f*2)) (.slice a L.length c)).setCell (l.H (f*2+1)) (.int .i64 q)) {l with hs:=l.hs.set f ⟨a,c⟩} {s with h:=s.h.set f (L,q)}:=by
 obtain ⟨⟨a1, a2, a3, a4, a5, a6, a7, a8⟩, ⟨b2, b3, b4, b5, b6, b7, b8⟩, ⟨c3, c4, c5, c6, c7, c8⟩, ⟨d4, d5, d6, d7, d8⟩, ⟨e5, e6, e7, e8⟩, ⟨g6, g7, g8⟩, _⟩ := h.ne; have hk : Vk [l.H] W ((W.setCell ⟨l.H, f * 2, none⟩ (.slice a L.length c)).setCell ⟨l.H, f * 2 + 1, none⟩ (.int .i64 q)) := (Vk.set W _ _ _ b11).trans (Vk.set _ _ _ _ b11); have hr := h.rest (mvs l).2.2.2.2.2.1 hk; have hs2 : StrRow 0 a c L ((W.setCell ⟨l.H, f * 2, none⟩ (.slice a L.length c)).setCell ⟨l.H, f * 2 + 1, none⟩ (.int .i64 q)) := str_keep hs hk.size fun b hb => hk.block _ (by simp; exact fun e => ho b hb (e ▸ vs_vx (mvs l).2.2.2.2.2.1)) (by
  rcases hs with ⟨h1,_⟩|⟨g,h1,_,h3,_⟩
  ·rw [h1] at hb;cases hb
  ·rw [h1] at hb;cases hb;exact h3)
 have hlh:=h.lh';refine ⟨⟨hr.im.di,hr.im.dp,hr.im.ra,fun i hi=>?_,hr.im.sc⟩,(by rw [hm];exact hr.m a5.symm),hr.f b5.symm,hr.a c5.symm,hr.la d5.symm,hr.r e5.symm,?_,hr.S g6,hr.n g7,hr.b g8,hr.rs h.nst.2.2.2.2.2.1,h.nd,h.lo,hr.hB,h.la',by simp [hlh],h.lr',hr.hx⟩
 ·rw [List.length_set] at hi;show StrRow 0 ((l.hs.set f ⟨a,c⟩).getD i Sl.nil).a ((l.hs.set f ⟨a,c⟩).getD i Sl.nil).c ((s.h.set f (L,q)).getD i ([],0)).1 _∧∀q,((l.hs.set f ⟨a,c⟩).getD i Sl.nil).a=some q→q.block∉vx l;rw [getD_set _ _ _ _ _ b10,getD_set _ _ _ _ _ hf];by_cases h1:i=f
  ·rw [if_pos h1,if_pos h1];exact ⟨hs2,ho⟩
  ·rw [if_neg h1,if_neg h1];exact hr.im.rh i hi
 ·have:=(h.h.set (f*2) (.slice a L.length c)).set (f*2+1) (.int .i64 q);rw [hC_set l.hs s.h f ⟨a,c⟩ L q hf hlh] at this;exact this
theorem Mg.putA (h:Mg mc B W l s) (f:Nat) (z:Int) (hm:mc l {s with fa:=s.fa.set f z}=mc l s:=by rfl):Mg mc B (W.setCell (l.A f) z) l {s with fa:=s.fa.set f z}:=by
 obtain ⟨⟨a1,a2,a3,a4,a5,a6,a7,a8⟩,⟨b2,b3,b4,b5,b6,b7,b8⟩,⟨c3,c4,c5,c6,c7,c8⟩,_⟩:=h.ne;have hr:=h.rest (mvs l).2.2.1 (Vk.set W l.A f (.int .i64 z) b11:Vk [l.A] W _);refine ⟨⟨hr.im.di,hr.im.dp,hr.im.ra,hr.im.rh,hr.im.sc⟩,(by rw [hm];exact hr.m a2.symm),hr.f b2.symm,?_,hr.la c3,hr.r c4,hr.h c5,hr.S c6,hr.n c7,hr.b c8,hr.rs h.nst.2.2.1,h.nd,h.lo,hr.hB,h.la',h.lh',h.lr',hr.hx⟩;have:=h.a.set f (.int .i64 z);rwa [Des.ints_set] at this
theorem Mg.putL (h:Mg mc B W l s) (f:Nat) (z:Int) (hm:mc l {s with la:=s.la.set f z}=mc l s:=by rfl):Mg mc B (W.setCell (l.L f) z) l {s with la:=s.la.set f z}:=by
 obtain ⟨⟨a1,a2,a3,a4,a5,a6,a7,a8⟩,⟨b2,b3,b4,b5,b6,b7,b8⟩,⟨c3,c4,c5,c6,c7,c8⟩,⟨d4,d5,d6,d7,d8⟩,_⟩:=h.ne;have hr:=h.rest (mvs l).2.2.2.1 (Vk.set W l.L f (.int .i64 z) b11:Vk [l.L] W _);refine ⟨⟨hr.im.di,hr.im.dp,hr.im.ra,hr.im.rh,hr.im.sc⟩,(by rw [hm];exact hr.m a3.symm),hr.f b3.symm,hr.a c3.symm,?_,hr.r d4,hr.h d5,hr.S d6,hr.n d7,hr.b d8,hr.rs h.nst.2.2.2.1,h.nd,h.lo,hr.hB,h.la',h.lh',h.lr',hr.hx⟩;have:=h.la.set f (.int .i64 z);rwa [Des.ints_set] at this
theorem Mg.putN (h:Mg mc B W l s) (f:Nat) (z:Int) (hm:mc l {s with fin:=s.fin.set f z}=mc l s:=by rfl):Mg mc B (W.setCell (l.N f) z) l {s with fin:=s.fin.set f z}:=by
 obtain ⟨⟨a1,a2,a3,a4,a5,a6,a7,a8⟩,⟨b2,b3,b4,b5,b6,b7,b8⟩,⟨c3,c4,c5,c6,c7,c8⟩,⟨d4,d5,d6,d7,d8⟩,⟨e5,e6,e7,e8⟩,⟨g6,g7,g8⟩,⟨i7,i8⟩,j8⟩:=h.ne;have hr:=h.rest (mvs l).2.2.2.2.2.2.2.1 (Vk.set W l.N f (.int .i64 z) b11:Vk [l.N] W _);refine ⟨⟨hr.im.di,hr.im.dp,hr.im.ra,hr.im.rh,hr.im.sc⟩,(by rw [hm];exact hr.m a7.symm),hr.f b7.symm,hr.a c7.symm,hr.la d7.symm,hr.r e7.symm,hr.h g7.symm,hr.S i7.symm,?_,hr.b j8,hr.rs h.nst.2.2.2.2.2.2.2.1,h.nd,h.lo,hr.hB,h.la',h.lh',h.lr',hr.hx⟩;have:=h.n.set f (.int .i64 z);rwa [Des.ints_set] at this
theorem Mg.putB (h:Mg mc B W l s) (f:Nat) (z:Int) (hm:mc l {s with bg:=s.bg.set f z}=mc l s:=by rfl):Mg mc B (W.setCell (l.B f) z) l {s with bg:=s.bg.set f z}:=by
 obtain ⟨⟨a1,a2,a3,a4,a5,a6,a7,a8⟩,⟨b2,b3,b4,b5,b6,b7,b8⟩,⟨c3,c4,c5,c6,c7,c8⟩,⟨d4,d5,d6,d7,d8⟩,⟨e5,e6,e7,e8⟩,⟨g6,g7,g8⟩,⟨i7,i8⟩,j8⟩:=h.ne;have hr:=h.rest (mvs l).2.2.2.2.2.2.2.2 (Vk.set W l.B f (.int .i64 z) b11:Vk [l.B] W _);refine ⟨⟨hr.im.di,hr.im.dp,hr.im.ra,hr.im.rh,hr.im.sc⟩,(by rw [hm];exact hr.m a8.symm),hr.f b8.symm,hr.a c8.symm,hr.la d8.symm,hr.r e8.symm,hr.h g8.symm,hr.S i8.symm,hr.n j8.symm,?_,hr.rs h.nst.2.2.2.2.2.2.2.2,h.nd,h.lo,hr.hB,h.la',h.lh',h.lr',hr.hx⟩;have:=h.b.set f (.int .i64 z);rwa [Des.ints_set] at this
theorem Mg.putT (h:Mm B W l s) (z:Int):Mm B (W.setCell (l.M 31) z) l {s with tm:=z}:=by
 obtain ⟨⟨a1,a2,a3,a4,a5,a6,a7,a8⟩,_⟩:=h.ne;have hr:=h.rest (mvs l).1 (Vk.set W l.M 31 (.int .i64 z) b11:Vk [l.M] W _);exact ⟨⟨hr.im.di,hr.im.dp,hr.im.ra,hr.im.rh,hr.im.sc⟩,h.m.set 31 _,hr.f a1,hr.a a2,hr.la a3,hr.r a4,hr.h a5,hr.S a6,hr.n a7,hr.b a8,hr.rs h.nst.1,h.nd,h.lo,hr.hB,h.la',h.lh',h.lr',hr.hx⟩
theorem Mg.putR (h:Mg mc B W l s) (p:Nat) (hp:p<s.ar.length) (a:Option Addr) (c:Nat) (L:List Ar) (hs:ARow 0 a c L W) (ho:∀q,a=some q→q.block∉vx l) (hm:mc {l with ar:=l.ar.set p ⟨a,c⟩} {s with ar:=s.ar.set p L}=mc l s:=by rfl):
 Mg mc B (W.setCell (l.R p) (.slice a L.length c)) {l with ar:=l.ar.set p ⟨a,c⟩} {s with ar:=s.ar.set p L}:=by
 obtain ⟨⟨a1, a2, a3, a4, a5, a6, a7, a8⟩, ⟨b2, b3, b4, b5, b6, b7, b8⟩, ⟨c3, c4, c5, c6, c7, c8⟩, ⟨d4, d5, d6, d7, d8⟩, ⟨e5, e6, e7, e8⟩, _⟩ := h.ne; have hk : Vk [l.R] W (W.setCell ⟨l.R, p, none⟩ (.slice a L.length c)) := Vk.set W _ _ _ b11; have hr := h.rest (mvs l).2.2.2.2.1 hk; have hs2 : ARow 0 a c L (W.setCell ⟨l.R, p, none⟩ (.slice a L.length c)) := arow_keep hs hk.size fun b hb => hk.block _ (by simp; exact fun e => ho b hb (e ▸ vs_vx (mvs l).2.2.2.2.1)) (by
  rcases hs with ⟨h1,_⟩|⟨g,h1,_,h3,_⟩
  ·rw [h1] at hb;cases hb
  ·rw [h1] at hb;cases hb;exact h3)
 have hlr:=h.lr';refine ⟨⟨hr.im.di,hr.im.dp,fun i hi=>?_,hr.im.rh,hr.im.sc⟩,(by rw [hm];exact hr.m a4.symm),hr.f b4.symm,hr.a c4.symm,hr.la d4.symm,?_,hr.h e5,hr.S e6,hr.n e7,hr.b e8,hr.rs h.nst.2.2.2.2.1,h.nd,h.lo,hr.hB,h.la',h.lh',by simp [hlr],hr.hx⟩
 ·rw [List.length_set] at hi;show ARow 0 ((l.ar.set p ⟨a,c⟩).getD i Sl.nil).a ((l.ar.set p ⟨a,c⟩).getD i Sl.nil).c ((s.ar.set p L).getD i []) _∧∀q,((l.ar.set p ⟨a,c⟩).getD i Sl.nil).a=some q→q.block∉vx l;rw [getD_set _ _ _ _ _ b10,getD_set _ _ _ _ _ hp];by_cases h1:i=p
  ·rw [if_pos h1,if_pos h1];exact ⟨hs2,ho⟩
  ·rw [if_neg h1,if_neg h1];exact hr.im.ra i hi
 ·have:=h.r.set p (.slice a L.length c);rw [slC_set l.ar s.ar p ⟨a,c⟩ L hp hlr] at this;exact this
end
end Go.Proofs.YtimhaidiclbnhaaGreat.Ver
