import Derived.Test.YtimhaidiclbnhaaGreatP02
set_option linter.unusedSimpArgs false
set_option linter.unusedVariables false
set_option maxRecDepth 100000
open Go.ChangeShapes Go.WideShapes Go.ChangeAt Go.RowKit
namespace Go.Proofs.YtimhaidiclbnhaaGreat.Des
theorem getD_get {α:Type} {l:List α} {d:α} {i:Nat} (h:i<l.length):l.getD i d=l[i]:=by simp [List.getD,h]
theorem own_ne2 {W:World} {B n size b:Nat} {e e':TypeId} {v:Value} {xs:List Value} (h:W.ownsRow B e size v n xs) (ty:∃cur,W.heap[b]? =some (.cells cur e' (0,0))) (he:e≠e'):∀q,v.ownBlock=some q→q≠b:=by
 intro q hq hqb;subst hqb;rcases h.2 with ⟨rfl,_⟩|⟨g,cap,cur,rfl,_,hg,_⟩
 ·cases hq
 ·cases hq;obtain ⟨c2,h2⟩:=ty;rw [hg] at h2;simp only [Option.some.injEq,Obj.cells.injEq] at h2;exact he h2.2.1
theorem At.setOther {w:World} {b:Nat} {cs:List Value} (h:At w b cs) {x:Addr} (hne:b≠x.block) (v:Value):At (w.setCell x v) b cs:=by
 have hh:(w.setCell x v).heap[b]? =w.heap[b]?:=Below.heap_setCell w x v b hne;refine ⟨fun j u hj=>(World.cell?_of_block (w:=w) (a:=⟨b,0+j,none⟩) hh).trans (h.r j u hj),fun j hj=>?_,by simp [World.setCell];exact h.hi⟩;rw [World.cell?_of_block (w:=w) (a:=⟨b,0+j,none⟩) hh,World.frozen?_of_block (w:=w) (a:=⟨b,0+j,none⟩) hh];exact h.t j hj
structure Bx (W:World) (b:Nat) (x:Dv):Prop where
 at':At W b [.slice x.oa x.o.length x.oc,.slice x.ta x.t.length x.tc]
 ty:∃cur,W.heap[b]? =some (.cells cur 83 (0,0))
theorem Bx.below {W W':World} {b B:Nat} {x:Dv} (h:Bx W b x) (hb:Below B W W') (hB:b<B):Bx W' b x:=by
 refine ⟨h.at'.below hb hB,?_⟩;obtain ⟨cur,hc⟩:=h.ty;exact ⟨cur,by rw [hb.block b hB];exact hc⟩
theorem Bx.other {W:World} {b:Nat} {x:Dv} (h:Bx W b x) {p:Addr} (hne:b≠p.block) (v:Value):Bx (W.setCell p v) b x:=by
 refine ⟨h.at'.setOther hne v,?_⟩;obtain ⟨cur,hc⟩:=h.ty;exact ⟨cur,by rw [Below.heap_setCell W p v b hne];exact hc⟩
theorem Bx.others {b g:Nat} {x:Dv} (hne:b≠g):∀(vs:List Value) (o:Nat) {W:World},Bx W b x→Bx (W.setCells g o vs) b x
 |[],_,_,h=>h
 |v::vs,o,_,h=>Bx.others hne vs (o+1) (h.other (p:=(g o)) hne v)
theorem Bx.new (W:World) (x:Dv):Bx (W.alloc (.cells #[.slice x.oa x.o.length x.oc,.slice x.ta x.t.length x.tc] 83)) W.heap.size x:=
 ⟨At.new W [.slice x.oa x.o.length x.oc,.slice x.ta x.t.length x.tc] 83,_,Go.heap_alloc_new W _⟩
theorem ty_set {W:World} {b:Nat} {e:TypeId} (h:∃cur,W.heap[b]? =some (.cells cur e (0,0))) (g o:Nat) (v:Value):∃cur,(W.setCell (g o) v).heap[b]? =some (.cells cur e (0,0)):=by
 obtain ⟨cur,hc⟩:=h;by_cases hb:b=g
 ·subst hb;exact ⟨cur.setIfInBounds o v,by simp [World.setCell,Array.getElem?_modify,hc]⟩
 ·exact ⟨cur,by rw [Below.heap_setCell W ⟨g,o,none⟩ v b hb];exact hc⟩
theorem Bx.setO {W:World} {b:Nat} {x:Dv} (h:Bx W b x) (a:Option Addr) (c:Nat) (l:List Dn) (n:Nat) (hn:l.length=n):Bx (W.setCell (b 0) (.slice a n c)) b ⟨a,c,l,x.ta,x.tc,x.t⟩:=by
 subst hn;exact ⟨h.at'.set 0 (.slice a l.length c),ty_set h.ty _ _ _⟩
theorem Bx.setT {W:World} {b:Nat} {x:Dv} (h:Bx W b x) (a:Option Addr) (c:Nat) (l:List Tb) (n:Nat) (hn:l.length=n):Bx (W.setCell (b 1) (.slice a n c)) b ⟨x.oa,x.oc,x.o,a,c,l⟩:=by
 subst hn;exact ⟨h.at'.set 1 (.slice a l.length c),ty_set h.ty _ _ _⟩
theorem Bx.cc {W:World} {b:Nat} {x:Dv} (h:Bx W b x):W.cell? (b 0)=some (.slice x.oa x.o.length x.oc)∧W.cell? (b 1)=some (.slice x.ta x.t.length x.tc)∧W.frozen? (b 0)=false∧W.frozen? (b 1)=false∧b<W.heap.size:=
 ⟨h.at'.cell 0 _ rfl,h.at'.cell 1 _ rfl,h.at'.free 0 b11,h.at'.free 1 b11,h.at'.hi⟩
structure Wk (B:Nat) (W:World) (b:Nat) (x:Dv):Prop where
 own:DOwn B W x
 box:Bx W b x
 lo:B≤b
theorem Wk.below {W W':World} {b B:Nat} {x:Dv} (h:Wk B W b x) (hb:Below W W W'):Wk B W' b x:=⟨h.own.below hb,h.box.below hb h.box.at'.hi,h.lo⟩
theorem DIn.desc {W:World} {x:Dv} (h:DIn W x) (i:Nat) (hi:i<x.o.length):∃g o,x.oa=some ⟨g,o,none⟩∧g<W.heap.size∧(x.o.length:Int)≤x.oc∧(x.oc:Int)≤9223372036854775807∧W.rangeAt g (o+i*5) (x.o.getD i Dn.zero).cells:=by
 obtain ⟨g,o,h1,h2,h3,h4,h5⟩:=h.o.at b10;refine ⟨g,o,h1,h2,h3,h4,fun j v hj=>?_⟩;have hj5:j<5:=(List.getElem?_eq_some_iff.1 hj).1;rw [Nat.add_assoc];exact h5 _ v (by rw [oflat_at _ _ hi _ hj5];exact hj)
theorem DIn.row {W:World} {x:Dv} (h:DIn W x) (i:Nat) (hi:i<x.t.length):∃g o,x.ta=some ⟨g,o,none⟩∧g<W.heap.size∧(x.t.length:Int)≤x.tc∧(x.tc:Int)≤9223372036854775807∧W.cell? ⟨g,o+i,none⟩=some (.slice (x.t.getD i Tb.nil).a (x.t.getD i Tb.nil).l.length (x.t.getD i Tb.nil).c):=by
 obtain ⟨g,o,h1,h2,h3,h4,h5⟩:=h.t.at b10;exact ⟨g,o,h1,h2,h3,h4,h5 i _ (by rw [List.getElem?_map,List.getElem?_eq_getElem hi,getD_get hi];rfl)⟩
theorem DIn.tab {W:World} {x:Dv} (h:DIn W x) (i:Nat) (hi:i<x.t.length):RowOf W (x.t.getD i Tb.nil).a (x.t.getD i Tb.nil).l.length (x.t.getD i Tb.nil).c (ints (x.t.getD i Tb.nil).l):=by
 rw [getD_get hi];exact h.e _ (List.getElem_mem hi)
theorem DIn.num {W:World} {x:Dv} (h:DIn W x) (i:Nat) (hi:i<x.t.length) (j:Nat) (hj:j<(x.t.getD i Tb.nil).l.length):∃g o,(x.t.getD i Tb.nil).a=some ⟨g,o,none⟩∧g<W.heap.size∧((x.t.getD i Tb.nil).l.length:Int)≤(x.t.getD i Tb.nil).c∧((x.t.getD i Tb.nil).c:Int)≤9223372036854775807∧W.cell? ⟨g,o+j,none⟩=some (((x.t.getD i Tb.nil).l.getD j 0):U):=by
 obtain ⟨g,o,h1,h2,h3,h4,h5⟩:=(h.tab i hi).at b10;exact ⟨g,o,h1,h2,h3,h4,h5 j _ (ints_at _ j hj)⟩
theorem own_zero {W:World} {B n c size g o:Nat} {e:TypeId} {xs:List Value} {a:Option Addr} (h:W.ownsRow B e size (.slice a n c) n xs) (ha:a=some ⟨g,o,none⟩):o=0:=by
 rcases h.2 with ⟨hv,_⟩|⟨g2,c2,cur,hv,_⟩
 ·cases hv;cases ha
 ·cases hv;cases ha;rfl
theorem own_free {W:World} {B n c size g o:Nat} {e:TypeId} {xs:List Value} (h:W.ownsRow B e size (.slice (some (g 0)) n c) n xs):W.frozen? (g o)=false:=by
 obtain ⟨cur,hc⟩:=own_heap h;simp [World.frozen?,hc]
theorem Wk.putO {B b g:Nat} {W:World} {x:Dv} (h:Wk B W b x) (hg:x.oa=some ⟨g,0,none⟩) (i:Nat) (hi:i<x.o.length) (y:Dn):Wk B (W.setCells g (i*5) y.cells) b ⟨x.oa,x.oc,x.o.set i y,x.ta,x.tc,x.t⟩:=by
 have ho:=h.own.o;rw [hg] at ho;have ty:=own_heap ho;have hb:b≠g:=fun e=>own_ne2 h.own.o (e':=83) h.box.ty b14 g (by rw [hg];rfl) e.symm;have h1:=own_cells y.cells (i*5) ho;rw [oflat_set _ _ hi] at h1;refine ⟨⟨by rw [List.length_set,hg];exact h1,own_apartS (own_ne2 h.own.t ty b14) _ _ h.own.t,fun z hz=>own_apartS (own_ne2 (h.own.e z hz) ty b14) _ _ (h.own.e z hz),h.own.d⟩,?_,h.lo⟩;have:=Bx.others hb y.cells (i*5) h.box;exact ⟨by rw [List.length_set];exact this.at',this.ty⟩
theorem oflat_set1 (l:List Dn) (i:Nat) (hi:i<l.length) (o:Nat) (ho:o<5) (u:Value) (y:Dn) (hy:y.cells=(l.getD i Dn.zero).cells.set o u):(oflat l).set (i*5+o) u=oflat (l.set i y):=by
 have h1:l=l.take i++l[i]::l.drop (i+1):=by rw [List.getElem_cons_drop,List.take_append_drop]
 have h2:l.set i y=l.take i++y::l.drop (i+1):=List.set_eq_take_append_cons_drop.trans (if_pos hi);have hl:(oflat (l.take i)).length=i*5:=by rw [oflat_len,List.length_take];congr 1;omega
 have hc:l[i].cells.length=5:=rfl;rw [h2,show oflat (l.take i++y::l.drop (i+1))=oflat (l.take i)++(y.cells++oflat (l.drop (i+1))) from by rw [oflat_append];rfl];rw [getD_get hi] at hy
 conv=>lhs;arg 1;rw [h1]
 rw [show oflat (l.take i++l[i]::l.drop (i+1))=oflat (l.take i)++(l[i].cells++oflat (l.drop (i+1))) from by rw [oflat_append];rfl];rw [List.set_append_right _ _ b10,hl,Nat.add_sub_cancel_left,List.set_append_left _ _ b10,←hy]
theorem Wk.putC {B b g:Nat} {W:World} {x:Dv} (h:Wk B W b x) (hg:x.oa=some ⟨g,0,none⟩) (i:Nat) (hi:i<x.o.length) (o:Nat) (ho:o<5) (u:Value) (y:Dn) (hy:y.cells=(x.o.getD i Dn.zero).cells.set o u):Wk B (W.setCell (g (i*5+o)) u) b ⟨x.oa,x.oc,x.o.set i y,x.ta,x.tc,x.t⟩:=by
 have ho':=h.own.o;rw [hg] at ho';have ty:=own_heap ho';have hb:b≠g:=fun e=>own_ne2 h.own.o (e':=83) h.box.ty b14 g (by rw [hg];rfl) e.symm;have h1:=(ho'.stored (i*5+o) u).1;rw [oflat_set1 _ i hi o ho u y hy] at h1;refine ⟨⟨by rw [List.length_set,hg];exact h1,own_apart h.own.t _ _ (own_ne2 h.own.t ty b14),fun z hz=>own_apart (h.own.e z hz) _ _ (own_ne2 (h.own.e z hz) ty b14),h.own.d⟩,?_,h.lo⟩;have:=h.box.other (p:=(g (i*5+o))) hb u;exact ⟨by rw [List.length_set];exact this.at',this.ty⟩
def tset (t:List Tb) (i j:Nat) (z:Int):List Tb:=t.set i ⟨(t.getD i Tb.nil).a,(t.getD i Tb.nil).c,(t.getD i Tb.nil).l.set j z⟩
theorem tset_len (t:List Tb) (i j:Nat) (z:Int):(tset t i j z).length=t.length:=by simp [tset]
theorem tset_map {α:Type} (f:Tb→α) (t:List Tb) (i j:Nat) (z:Int) (hf:∀a c l,f ⟨a,c,l.set j z⟩=f ⟨a,c,l⟩):(tset t i j z).map f=t.map f:=by
 by_cases hi:i<t.length
 ·unfold tset;rw [List.map_set,getD_get hi,hf];exact List.ext_getElem b11 fun n h1 h2=>by
   rw [List.getElem_set];split
   ·rename_i h;subst h;simp
   ·rfl
 ·unfold tset;rw [List.set_eq_of_length_le b10]
theorem tset_l (t:List Tb) (i j:Nat) (z:Int):(tset t i j z).map Tb.l=(t.map Tb.l).set i (((t.map Tb.l).getD i []).set j z):=by
 unfold tset;rw [List.map_set];congr 2
 by_cases hi:i<t.length
 ·rw [getD_get hi,getD_get (by simpa using hi),List.getElem_map]
 ·have e1:t.getD i Tb.nil=Tb.nil:=by simp [List.getD,List.getElem?_eq_none (Nat.le_of_not_lt hi)]
  have e2:(t.map Tb.l).getD i []=[]:=by simp [List.getD,List.getElem?_eq_none (Nat.le_of_not_lt hi)]
  rw [e1,e2];rfl
theorem Wk.putT {B b g:Nat} {W:World} {x:Dv} (h:Wk B W b x) (i:Nat) (hi:i<x.t.length) (hg:(x.t.getD i Tb.nil).a=some ⟨g,0,none⟩) (j:Nat) (z:Int):Wk B (W.setCell (g j) z) b ⟨x.oa,x.oc,x.o,x.ta,x.tc,tset x.t i j z⟩:=by
 have he:=h.own.e _ (List.getElem_mem hi);rw [getD_get hi] at hg;have hv:x.t[i].val=.slice (some (g 0)) x.t[i].l.length x.t[i].c:=by unfold Tb.val;rw [hg]
 have he':=he;rw [hv] at he';have ty:=own_heap he';have hb:b≠g:=fun e=>own_ne2 he (e':=83) h.box.ty b14 g b50 e.symm;have h1:=(he'.stored j (.int .i64 z)).1;rw [ints_set] at h1;have ev:(tset x.t i j z).map Tb.val=x.t.map Tb.val:=tset_map Tb.val _ _ _ _ (fun a c l=>by simp [Tb.val]);have ea:(tset x.t i j z).map Tb.a=x.t.map Tb.a:=tset_map Tb.a _ _ _ _ (fun a c l=>rfl);refine ⟨⟨own_apart h.own.o _ _ (own_ne2 h.own.o ty b14),?_,fun y hy=>?_,?_⟩,?_,h.lo⟩
 ·show World.ownsRow _ B 22 1 (.slice x.ta (tset x.t i j z).length x.tc) (tset x.t i j z).length ((tset x.t i j z).map Tb.val);rw [tset_len,ev];exact own_apart h.own.t _ _ (own_ne2 h.own.t ty b14)
 ·obtain ⟨k,hk,rfl⟩:=List.getElem_of_mem hy;have hk':k<x.t.length:=by rw [←tset_len x.t i j z];exact hk
  show World.ownsRow _ B 3 1 ((tset x.t i j z)[k]).val ((tset x.t i j z)[k]).l.length (ints ((tset x.t i j z)[k]).l);by_cases hik:i=k
  ·subst hik;have e:(tset x.t i j z)[i]=⟨x.t[i].a,x.t[i].c,x.t[i].l.set j z⟩:=by simp only [tset,getD_get hi,List.getElem_set_self]
   rw [e];show World.ownsRow _ B 3 1 (.slice x.t[i].a (x.t[i].l.set j z).length x.t[i].c) (x.t[i].l.set j z).length (ints (x.t[i].l.set j z));rw [List.length_set,hg];exact h1
  ·have e:(tset x.t i j z)[k]=x.t[k]:=by simp [tset,hik]
   rw [e];refine own_apart (h.own.e _ (List.getElem_mem hk')) _ _ (fun q hq hqg=>?_);have hp:=List.pairwise_iff_getElem.1 h.own.d;have hq2:∃p,x.t[k].a=some p∧p.block=q:=by
    unfold Tb.val at hq;cases ha:x.t[k].a with
    |none=>rw [ha] at hq;cases hq
    |some p=>rw [ha] at hq;exact ⟨p,rfl,by simpa [Value.ownBlock] using hq⟩
   obtain ⟨p,hp1,hp2⟩:=hq2;rcases Nat.lt_or_gt_of_ne hik with hlt|hlt
   ·exact hp i k hi hk' hlt ⟨g,0,none⟩ p hg hp1 (by rw [hp2];exact hqg.symm)
   ·exact hp k i hk' hi hlt p ⟨g,0,none⟩ hp1 hg (by rw [hp2];exact hqg)
 ·have hd:=h.own.d;have conv:∀l:List Tb,l.Pairwise (fun y z=>∀p q,y.a=some p→z.a=some q→p.block≠q.block)↔(l.map Tb.a).Pairwise (fun y z=>∀p q,y=some p→z=some q→p.block≠q.block):=fun l=>by rw [List.pairwise_map]
  rw [conv] at hd ⊢;rw [ea];exact hd
 ·have:=h.box.other (p:=(g j)) hb (.int .i64 z);exact ⟨by show At _ b [.slice x.oa x.o.length x.oc,.slice x.ta (tset x.t i j z).length x.tc];rw [tset_len];exact this.at',this.ty⟩
theorem desc_info:(Tryz.prog.info? 126).map (fun i=>(i.zero,i.size,i.bytes))=some (some (.agg #[I,I,I,I,I]),5,40):=by kernel_rfl
theorem row_info:(Tryz.prog.info? 22).map (fun i=>(i.zero,i.size,i.bytes))=some (some (.slice none 0 0),1,24):=by kernel_rfl
theorem int_info:(Tryz.prog.info? 3).map (fun i=>(i.zero,i.size,i.bytes))=some (some (I:U),1,8):=by kernel_rfl
theorem size34:(Tryz.prog.info? 126).map (·.size)=some 5:=by kernel_rfl
theorem own_slice {W:World} {B n size:Nat} {e:TypeId} {v:Value} {xs:List Value} (h:W.ownsRow B e size v n xs):∃a c,v=.slice a n c:=by
 rcases h.2 with ⟨rfl,rfl⟩|⟨g,cap,cur,rfl,_⟩
 ·exact ⟨none,0,rfl⟩
 ·exact ⟨_,_,rfl⟩
theorem own_kept {W W':World} {B n size B' n' size':Nat} {e e':TypeId} {v v':Value} {xs xs':List Value} (h:W.ownsRow B e size v n xs) (h':W.ownsRow B' e' size' v' n' xs') (he:e≠e') (hg:W.grownBy W' v'.ownBlock):W'.ownsRow B e size v n xs:=by
 refine h.kept hg ?_;rcases h.2 with ⟨rfl,_⟩|⟨g,cap,cur,rfl,_,hgg,_⟩
 ·exact Or.inl rfl
 ·right
  intro hq;exact own_ne2 h' ⟨_,hgg⟩ (Ne.symm he) g hq.symm rfl
theorem Bx.kept {W W':World} {b:Nat} {x:Dv} {B' n' size':Nat} {e':TypeId} {v':Value} {xs':List Value} (h:Bx W b x) (h':W.ownsRow B' e' size' v' n' xs') (he:e'≠83) (hg:W.grownBy W' v'.ownBlock):Bx W' b x:=by
 have hb:W'.heap[b]? =W.heap[b]?:=hg.block b h.at'.hi (fun e=>own_ne2 h' h.ty he b e.symm rfl);refine ⟨⟨fun j u hj=>(World.cell?_of_block (w:=W) (a:=⟨b,0+j,none⟩) hb).trans (h.at'.r j u hj),fun j hj=>?_,Nat.lt_of_lt_of_le h.at'.hi hg.size⟩,by rw [hb];exact h.ty⟩;rw [World.cell?_of_block (w:=W) (a:=⟨b,0+j,none⟩) hb,World.frozen?_of_block (w:=W) (a:=⟨b,0+j,none⟩) hb];exact h.at'.t j hj
theorem append_desc (W:World) (B b:Nat) (x:Dv) (y:Dn) (vb:Nat) (h:Wk B W b x) (hv:W.rangeAt vb 0 y.cells) (hl:x.o.length≤1000) (hB:B≤W.heap.size):
 ∃a' c' W',(Builtin.append_ #[80,80] 80 #[.slice x.oa x.o.length x.oc,.slice (some (vb 0)) 1 1]).run Tryz.prog W=.ok (.slice a' (x.o.length+1) c') W'∧DOwn B W' ⟨a',c',x.o++[y],x.ta,x.tc,x.t⟩∧Bx W' b x∧Below B W W':=by
 obtain ⟨i0,hi,hz0,hz1,hz2⟩:=info_parts desc_info;have hc:∀j u,y.cells[j]? =some u→W.cell? ((⟨vb,0,none⟩:Addr).add j)=some u:=fun j u hj=>by rw [Addr.add_lit];exact hv j u hj
 obtain ⟨v',W',hr,how,hg,_⟩:=run_append_own (P:=Tryz.prog) W B 80 80 126 i0 _ 5 40 Tryz.underlying80 hi hz0 hz1 hz2 rfl b14 _ _ _ h.own.o ⟨vb,0,none⟩ 1 1 y.cells rfl hc (dn_one y) b17 b10 hB;have he:oflat x.o++y.cells=oflat (x.o++[y]):=by rw [oflat_append,oflat_one]
 rw [he] at how;obtain ⟨a',c',rfl⟩:=own_slice how;refine ⟨a',c',W',hr,⟨by rw [List.length_append];exact how,own_kept h.own.t h.own.o b14 hg,fun z hz=>own_kept (h.own.e z hz) h.own.o b14 hg,h.own.d⟩,h.box.kept h.own.o b14 hg,(Below.refl B W).grown hg hB (fun k hk=>(h.own.o.lt k hk).1)⟩
theorem append_tab (W:World) (B b:Nat) (x:Dv) (y:Tb) (vb:Nat) (h:Wk B W b x) (hv:W.cell? (vb 0)=some y.val) (hy:W.ownsRow B 3 1 y.val y.l.length (ints y.l)) (hd:∀z∈x.t,∀p q,z.a=some p→y.a=some q→p.block≠q.block) (hl:x.t.length≤1000) (hB:B≤W.heap.size):
 ∃a' c' W',(Builtin.append_ #[81,81] 81 #[.slice x.ta x.t.length x.tc,.slice (some (vb 0)) 1 1]).run Tryz.prog W=.ok (.slice a' (x.t.length+1) c') W'∧DOwn B W' ⟨x.oa,x.oc,x.o,a',c',x.t++[y]⟩∧Bx W' b x∧Below B W W':=by
 obtain ⟨i0,hi,hz0,hz1,hz2⟩:=info_parts row_info;have hc:∀j u,[y.val][j]? =some u→W.cell? ((⟨vb,0,none⟩:Addr).add j)=some u:=fun j u hj=>by
  cases j with
  |zero=>simp at hj;subst hj;exact hv
  |succ j=>simp at hj
 obtain ⟨v',W',hr,how,hg,_⟩:=run_append_own (P:=Tryz.prog) W B 81 81 22 i0 _ 1 24 Tryz.underlying81 hi hz0 hz1 hz2 rfl b14 _ _ _ h.own.t ⟨vb,0,none⟩ 1 1 [y.val] rfl hc (by intro u hu;simp at hu;subst hu;rfl) b17 b10 hB;obtain ⟨a',c',rfl⟩:=own_slice how;refine ⟨a',c',W',hr,⟨own_kept h.own.o h.own.t b14 hg,by show World.ownsRow _ B 22 1 (.slice a' (x.t++[y]).length c') (x.t++[y]).length ((x.t++[y]).map Tb.val);rw [List.length_append,List.map_append];exact how,fun z hz=>?_,?_⟩,h.box.kept h.own.t b14 hg,(Below.refl B W).grown hg hB (fun k hk=>(h.own.t.lt k hk).1)⟩
 ·rcases List.mem_append.1 hz with hz|hz
  ·exact own_kept (h.own.e z hz) h.own.t b14 hg
  ·simp at hz;subst hz;exact own_kept hy h.own.t b14 hg
 ·rw [List.pairwise_append];exact ⟨h.own.d,List.pairwise_singleton _ _,fun z hz z' hz'=>by simp at hz';subst hz';exact hd z hz⟩
end Go.Proofs.YtimhaidiclbnhaaGreat.Des
