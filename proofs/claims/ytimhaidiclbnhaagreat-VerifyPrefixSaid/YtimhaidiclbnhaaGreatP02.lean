import Derived.Test.YtimhaidiclbnhaaGreatP01
set_option linter.unusedSimpArgs false
set_option linter.unusedVariables false
set_option maxRecDepth 100000
open Go.ChangeShapes Go.WideShapes Go.ChangeAt Go.RowKit
namespace Go.Proofs.YtimhaidiclbnhaaGreat.Des
theorem dn_one (a:Dn):∀v∈a.cells,v.oneCell'=true:=by
 intro u hu;simp [Dn.cells] at hu;rcases hu with rfl|rfl|rfl|rfl|rfl<;>rfl
def oflat (l:List Dn):List Value:=l.flatMap Dn.cells
theorem oflat_len (l:List Dn):(oflat l).length=l.length*5:=by
 induction l with
 |nil=>rfl
 |cons a r ih=>simp only [oflat,List.flatMap_cons,List.length_append] at *;rw [ih];simp [Dn.cells];omega
theorem oflat_append (l m:List Dn):oflat (l++m)=oflat l++oflat m:=by simp [oflat]
theorem oflat_one (a:Dn):oflat [a]=a.cells:=by simp [oflat]
theorem oflat_cells {l:List Dn}:∀u∈oflat l,u.oneCell'=true:=by
 intro u hu;obtain ⟨a,_,ha⟩:=List.mem_flatMap.1 hu;exact dn_one a u ha
theorem oflat_at (l:List Dn):∀(j:Nat),j<l.length→∀i,i<5→(oflat l)[j*5+i]? =((l.getD j Dn.zero).cells)[i]?:=by
 induction l with
 |nil=>intro j hj;simp at hj
 |cons a r ih=>
  intro j hj i hi;have e:oflat (a::r)=a.cells++oflat r:=by simp [oflat]
  rw [e];cases j with
  |zero=>
   rw [List.getElem?_append_left (by simp [Dn.cells];omega)];simp [List.getD]
  |succ k=>
   rw [List.getElem?_append_right (by simp [Dn.cells];omega)];have h2:=ih k (by simpa using hj) i hi;rw [show (k+1)*5+i-a.cells.length=k*5+i from by simp [Dn.cells];omega,h2];simp [List.getD]
def ints (l:List Int):List Value:=l.map (.int .i64)
theorem ints_len (l:List Int):(ints l).length=l.length:=by simp [ints]
theorem ints_one {l:List Int}:∀u∈ints l,u.oneCell'=true:=by
 intro u hu;obtain ⟨a,_,rfl⟩:=List.mem_map.1 hu;rfl
theorem ints_at (l:List Int) (j:Nat) (hj:j<l.length):(ints l)[j]? =some ((l.getD j 0):U):=by
 simp [ints,List.getElem?_eq_getElem hj,List.getD]
theorem ints_set (l:List Int) (j:Nat) (z:Int):(ints l).set j (.int .i64 z)=ints (l.set j z):=by simp [ints,List.map_set]
def RowOf (w:World) (a:Option Addr) (n cap:Nat) (cs:List Value):Prop:=
 (a=none∧n=0∧cap=0)∨∃g o,a=some ⟨g,o,none⟩∧g<w.heap.size∧n≤cap∧cap≤maxLen∧w.rangeAt g o cs
theorem RowOf.keep {w w':World} {a:Option Addr} {n cap:Nat} {cs:List Value} (h:RowOf w a n cap cs) (hs:w.heap.size≤w'.heap.size)
 (hk:∀g o,a=some ⟨g,o,none⟩→g<w.heap.size→∀i,w'.cell? ⟨g,i,none⟩=w.cell? ⟨g,i,none⟩):RowOf w' a n cap cs:=by
 rcases h with h|⟨g,o,rfl,h1,h2,h3,h4⟩
 ·exact Or.inl h
 ·exact Or.inr ⟨g,o,rfl,Nat.lt_of_lt_of_le h1 hs,h2,h3,fun j v hv=>(hk g o rfl h1 (o+j)).trans (h4 j v hv)⟩
theorem RowOf.below {w w':World} {a:Option Addr} {n cap:Nat} {cs:List Value} (h:RowOf w a n cap cs) (hb:Below w w w'):RowOf w' a n cap cs:=
 h.keep hb.size fun g _ _ h1 i=>hb.cell (p:=(g i)) h1
theorem RowOf.ofOwn {w:World} {B n cap:Nat} {a:Option Addr} {e:TypeId} {size:Nat} {cs:List Value} (h:w.ownsRow B e size (.slice a n cap) n cs):RowOf w a n cap cs:=by
 rcases h.2 with ⟨hv,hn⟩|⟨g,c,cur,hv,hB,_,hc1,hc2,_⟩
 ·cases hv;exact Or.inl ⟨rfl,rfl,rfl⟩
 ·cases hv;refine Or.inr ⟨g,0,rfl,(h.lt g rfl).2,hc1,hc2,fun j u hj=>?_⟩;have:=h.cells (g:=g) rfl j u hj;rwa [Addr.add_lit] at this
theorem RowOf.at {w:World} {a:Option Addr} {n cap:Nat} {cs:List Value} (h:RowOf w a n cap cs) (hn:0<n):∃g o,a=some ⟨g,o,none⟩∧g<w.heap.size∧(n:Int)≤cap∧(cap:Int)≤9223372036854775807∧w.rangeAt g o cs:=by
 rcases h with ⟨_,h,_⟩|⟨g,o,h1,h2,h3,h4,h5⟩
 ·omega
 ·unfold maxLen at h4;exact ⟨g,o,h1,h2,by omega,by omega,h5⟩
theorem RowOf.cap {w:World} {a:Option Addr} {n cap:Nat} {cs:List Value} (h:RowOf w a n cap cs):(n:Int)≤cap∧(cap:Int)≤9223372036854775807:=by
 rcases h with ⟨_,h,h'⟩|⟨g,o,h1,h2,h3,h4,h5⟩
 ·omega
 ·unfold maxLen at h4;omega
structure Tb where
 a:Option Addr
 c:Nat
 l:List Int
def Tb.val (x:Tb):Value:=.slice x.a x.l.length x.c
def Tb.nil:Tb:=⟨none,0,[]⟩
structure Dv where
 oa:Option Addr
 oc:Nat
 o:List Dn
 ta:Option Addr
 tc:Nat
 t:List Tb
def dVal (x:Dv):Value:=.agg #[.slice x.oa x.o.length x.oc,.slice x.ta x.t.length x.tc]
def Dv.nil:Dv:=⟨none,0,[],none,0,[]⟩
structure De where
 o:List Dn
 t:List (List Int)
theorem De.ext' {a b:De} (h1:a.o=b.o) (h2:a.t=b.t):a=b:=by cases a;cases b;simp_all
def Dv.pl (x:Dv):De:=⟨x.o,x.t.map Tb.l⟩
structure DIn (w:World) (x:Dv):Prop where
 o:RowOf w x.oa x.o.length x.oc (oflat x.o)
 t:RowOf w x.ta x.t.length x.tc (x.t.map Tb.val)
 e:∀y∈x.t,RowOf w y.a y.l.length y.c (ints y.l)
theorem DIn.below {w w':World} {x:Dv} (h:DIn w x) (hb:Below w w w'):DIn w' x:=⟨h.o.below hb,h.t.below hb,fun y hy=>(h.e y hy).below hb⟩
theorem DIn.nil (w:World):DIn w Dv.nil:=⟨Or.inl ⟨rfl,rfl,rfl⟩,Or.inl ⟨rfl,rfl,rfl⟩,fun y hy=>by cases hy⟩
structure DOwn (B:Nat) (w:World) (x:Dv):Prop where
 o:w.ownsRow B 126 5 (.slice x.oa x.o.length x.oc) x.o.length (oflat x.o)
 t:w.ownsRow B 22 1 (.slice x.ta x.t.length x.tc) x.t.length (x.t.map Tb.val)
 e:∀y∈x.t,w.ownsRow B 3 1 y.val y.l.length (ints y.l)
 d:x.t.Pairwise (fun y z=>∀p q,y.a=some p→z.a=some q→p.block≠q.block)
theorem DOwn.in {B:Nat} {w:World} {x:Dv} (h:DOwn B w x):DIn w x:=⟨RowOf.ofOwn h.o,RowOf.ofOwn h.t,fun y hy=>RowOf.ofOwn (h.e y hy)⟩
theorem own_mono {w:World} {B C:Nat} {e:TypeId} {size n:Nat} {v:Value} {xs:List Value} (h:w.ownsRow B e size v n xs) (hb:C≤B):w.ownsRow C e size v n xs:=by
 refine ⟨h.1,?_⟩;rcases h.2 with hn|⟨g,cap,cur,e1,e2,e3⟩
 ·exact Or.inl hn
 ·exact Or.inr ⟨g,cap,cur,e1,Nat.le_trans hb e2,e3⟩
theorem ownsRow_below {w w':World} {B:Nat} {e:TypeId} {size n:Nat} {v:Value} {xs:List Value} (h:w.ownsRow B e size v n xs) (hb:Below w w w'):w'.ownsRow B e size v n xs:=by
 exact cl76
theorem DOwn.below {B:Nat} {w w':World} {x:Dv} (h:DOwn B w x) (hb:Below w w w'):DOwn B w' x:=⟨ownsRow_below h.o hb,ownsRow_below h.t hb,fun y hy=>ownsRow_below (h.e y hy) hb,h.d⟩
theorem DOwn.mono {B C:Nat} {w:World} {x:Dv} (h:DOwn B w x) (hc:C≤B):DOwn C w x:=⟨own_mono h.o hc,own_mono h.t hc,fun y hy=>own_mono (h.e y hy) hc,h.d⟩
theorem hold_load {P:Program} {ops:Array Oper} {rest:List Oper} {op:Oper} {a:Act} {w:World} {Q:Exit→Act→World→Prop} {x:Operand} (ty:TypeId) (ho:op.op=.load ty x)
 (h:Hid (wpList P ops Q (op::rest) a w)):wpList P ops Q (op::rest) a w:=h
theorem hold_store {P:Program} {ops:Array Oper} {rest:List Oper} {op:Oper} {a:Act} {w:World} {Q:Exit→Act→World→Prop} {x y:Operand} (ty:TypeId) (ho:op.op=.store ty x y)
 (h:Hid (wpList P ops Q (op::rest) a w)):wpList P ops Q (op::rest) a w:=h
theorem load_ato {P:Program} {ops:Array Oper} {rest:List Oper} {op:Oper} {a:Act} {w:World} {Q:Exit→Act→World→Prop} {x:Operand} {b:Nat} (o:Nat) {cs:List Value} {ty:TypeId} {d:TypeDesc}
 (h:w.rangeAt b o cs) (hu:P.underlying ty=some d) (hd:d.isRow=true) (hi:(P.info? ty).map (·.size)=some cs.length)
 (hx:a.eval x=.pointer (some (b o))) (hg:op.guard=none) (ho:op.op=.load ty x)
 (hn:wpList P ops Q rest (a.put op.dst (.agg cs.toArray)) w):Hid (wpList P ops Q (op::rest) a w):=
 wpList_load_mid hg ty x ho b o hx _ d h hu hd hi hn
theorem store_ato {P:Program} {ops:Array Oper} {rest:List Oper} {op:Oper} {a:Act} {w:World} {Q:Exit→Act→World→Prop} {x y:Operand} {b:Nat} (o:Nat) {n:Nat} {ty:TypeId} (vs:List Value)
 (h:w.there b o n) (hl:vs.length=n) (hi:(P.info? ty).map (·.size)=some n) (ho1:vs.toArray.all (·.oneCell')=true)
 (hx:a.eval x=.pointer (some (b o))) (hy:a.eval y=.agg vs.toArray) (hg:op.guard=none) (ho:op.op=.store ty x y)
 (hn:∀w',w'=w.setCells b o vs→wpList P ops Q rest (a.put op.dst undef) w'):Hid (wpList P ops Q (op::rest) a w):=
 wpList_store_mid hg ty x y ho b o _ hx hy (by rw [show vs.toArray.size=n from by simpa using hl];exact h) (by rw [hi,←hl];simp) ho1 (hn _ rfl)
theorem size_cells (b:Nat):∀(vs:List Value) (o:Nat) (w:World),(w.setCells b o vs).heap.size=w.heap.size
 |[],_,_=>rfl
 |v::vs,o,w=>by
  show ((w.setCell (b o) v).setCells b (o+1) vs).heap.size=_;rw [size_cells b vs (o+1)];simp [World.setCell]
theorem below_cells {B b:Nat} {a:World} (hb:B≤b):∀(vs:List Value) (o:Nat) {w:World},Below B a w→Below B a (w.setCells b o vs)
 |[],_,_,h=>h
 |v::vs,o,_,h=>below_cells hb vs (o+1) (h.setCell (p:=(b o)) hb v)
theorem results_cell (P:Program) (fn:Func) (tmps:Array Value) {t:Tmp} {ty:TypeId} (h:fn.results=#[.cell t ty]) (w:World) (b:Nat) (cs:List Value) (ht:tmps.getD t undef=.pointer (some (b 0))) (d:TypeDesc) (hc:w.rangeAt b 0 cs)
 (hu:P.underlying ty=some d) (hd:d.isRow=true) (hi:(P.info? ty).map (·.size)=some cs.length):(results fn tmps).run P w=.ok (.agg cs.toArray) w:=by
 have:=run_loadVar_mid (P:=P) w b 0 ty cs d hc hu hd hi;have ht2:tmps[t]?.getD undef=.pointer (some (b 0)):=by rw [←ht];simp
 simp [results,h,ht2,this,asAddr]
structure At (w:World) (b:Nat) (cs:List Value):Prop where
 r:w.rangeAt b 0 cs
 t:w.there b 0 cs.length
 hi:b<w.heap.size
theorem At.below {w w':World} {b B:Nat} {cs:List Value} (h:At w b cs) (hb:Below B w w') (hB:b<B):At w' b cs:=
 ⟨fun j v hv=>(hb.cell (p:=(b (0+j))) hB).trans (h.r j v hv),
  fun j hj=>⟨by rw [hb.cell (p:=(b (0+j))) hB];exact (h.t j hj).1,by rw [hb.frozen (p:=(b (0+j))) hB];exact (h.t j hj).2⟩,Nat.lt_of_lt_of_le h.hi hb.size⟩
theorem At.store {w:World} {b:Nat} {cs:List Value} (h:At w b cs) (vs:List Value) (hl:vs.length=cs.length):At (w.setCells b 0 vs) b vs:=
 ⟨World.rangeAt_setCells_same _ _ _ _ (by rw [hl];exact h.t),by rw [hl];exact World.there_setCells h.t _ _ _,by rw [size_cells];exact h.hi⟩
theorem At.apart {w:World} {b b':Nat} {cs:List Value} (h:At w b cs) (hne:b≠b') (o:Nat) (vs:List Value):At (w.setCells b' o vs) b cs:=
 ⟨World.rangeAt_setCells_apart h.r _ _ _ (Or.inl hne),World.there_setCells h.t _ _ _,by rw [size_cells];exact h.hi⟩
theorem range_set {w:World} {b:Nat} {A:List Value} (h:w.rangeAt b 0 A) (i:Nat) (v:Value):(w.setCell (b i) v).rangeAt b 0 (A.set i v):=by
 intro j u hu;rw [Nat.zero_add];by_cases hij:i=j
 ·subst hij;have hl:i<A.length:=by
   have:=(List.getElem?_eq_some_iff.1 hu).1;simpa using this
  rw [List.getElem?_set_self hl] at hu;cases hu;have h1:=h i _ (List.getElem?_eq_getElem hl);rw [Nat.zero_add] at h1;exact World.cell?_setCell_same _ _ _ h1
 ·rw [List.getElem?_set_ne hij] at hu;rw [World.cell?_setCell_other]
  ·have:=h j u hu;rwa [Nat.zero_add] at this
  ·exact fun e=>hij (Addr.mk.inj e).2.1
theorem there_set {w:World} {b n:Nat} (h:w.there b 0 n) (x:Addr) (v:Value):(w.setCell x v).there b 0 n:=by
 intro j hj;refine ⟨?_,by rw [World.frozen?_setCell];exact (h j hj).2⟩;have h1:=(h j hj).1;by_cases hx:x=⟨b,0+j,none⟩
 ·subst hx;obtain ⟨u,hu⟩:=Option.isSome_iff_exists.1 h1;rw [World.cell?_setCell_same _ _ _ hu];rfl
 ·rw [World.cell?_setCell_other _ _ _ _ hx];exact h1
theorem At.set {w:World} {b:Nat} {cs:List Value} (h:At w b cs) (i:Nat) (v:Value):At (w.setCell (b i) v) b (cs.set i v):=
 ⟨range_set h.r i v,by rw [List.length_set];exact there_set h.t _ _,by simpa [World.setCell] using h.hi⟩
theorem At.cell {w:World} {b:Nat} {cs:List Value} (h:At w b cs) (i:Nat) (v:Value) (hv:cs[i]? =some v):w.cell? (b i)=some v:=by
 have:=h.r i v hv;rwa [Nat.zero_add] at this
theorem At.free {w:World} {b:Nat} {cs:List Value} (h:At w b cs) (i:Nat) (hi:i<cs.length):w.frozen? (b i)=false:=by
 have:=(h.t i hi).2;rwa [Nat.zero_add] at this
theorem At.new (w:World) (cs:List Value) (T:TypeId):At (w.alloc (.cells cs.toArray T)) w.heap.size cs:=by
 have e:∀k,(w.alloc (.cells cs.toArray T)).cell? (w 0 k)=cs[k]?:=fun k=>(World.cell?_alloc_new _ _ _ _).trans b11;refine ⟨fun j v hv=>by rw [Nat.zero_add,e];exact hv,fun j hj=>⟨?_,World.frozen?_alloc_new _ _ _ _⟩,by simp⟩;rw [Nat.zero_add,e,List.getElem?_eq_getElem hj];rfl
theorem At.alloc {w:World} {b:Nat} {cs:List Value} (h:At w b cs) (o:Obj):At (w.alloc o) b cs:=h.below (Br.alloc Nr o) h.hi
theorem At.cast {w:World} {b b':Nat} {cs:List Value} (h:At w b cs) (e:b=b'):At w b' cs:=e▸h
def setL (xs:List Value) (o:Nat):List Value→List Value
 |[]=>xs
 |v::vs=>setL (xs.set o v) (o+1) vs
theorem setL_mid (A C:List Value):∀(vs B:List Value),B.length=vs.length→setL (A++B++C) A.length vs=A++vs++C:=by
 intro vs
 induction vs generalizing A with
 |nil=>intro B h;have:=List.length_eq_zero_iff.1 h;subst this;rfl
 |cons v vs ih=>
  intro B h;cases B with
  |nil=>simp at h
  |cons b B=>
   have h2:=ih (A++[v]) B b35;simp only [setL];rw [show (A++b::B++C).set A.length v=A++[v]++B++C from by simp,show A.length+1=(A++[v]).length from by simp,h2];simp
theorem own_cells {B g n cap size:Nat} {e:TypeId}:∀(vs:List Value) (o:Nat) {w:World} {xs:List Value},w.ownsRow B e size (.slice (some (g 0)) n cap) n xs→(w.setCells g o vs).ownsRow B e size (.slice (some (g 0)) n cap) n (setL xs o vs)
 |[],_,_,_,h=>h
 |v::vs,o,_,_,h=>own_cells vs (o+1) (h.stored o v).1
theorem own_there {w:World} {B g cap n size:Nat} {e:TypeId} {xs:List Value} (h:w.ownsRow B e size (.slice (some (g 0)) n cap) n xs) (i:Nat) (hi:i<n):w.there g (i*size) size:=by
 rcases h.2 with ⟨hv,_⟩|⟨g2,c2,cur,hv,_,hgg,h1,h2,h3,_⟩
 ·cases hv
 ·cases hv;intro j hj;have hlt:i*size+j<cur.size:=by
   rw [h3];have:(i+1)*size≤cap*size:=Nat.mul_le_mul_right size b10;rw [Nat.succ_mul] at this;omega
  refine ⟨?_,?_⟩
  ·simp only [World.cell?,hgg];rw [Array.getElem?_eq_getElem hlt];rfl
  ·simp [World.frozen?,hgg]
theorem own_lt {w:World} {B g cap n size:Nat} {e:TypeId} {xs:List Value} (h:w.ownsRow B e size (.slice (some (g 0)) n cap) n xs):B≤g∧g<w.heap.size∧(n:Int)≤cap∧(cap:Int)≤9223372036854775807:=by
 have:=h.lt g rfl;rcases h.2 with ⟨hv,_⟩|⟨g2,c2,cur,hv,_,hgg,h1,h2,h3,_⟩
 ·cases hv
 ·cases hv;unfold maxLen at h2;exact ⟨this.1,this.2,by omega,by omega⟩
theorem own_heap {w:World} {B g cap n size:Nat} {e:TypeId} {xs:List Value} (h:w.ownsRow B e size (.slice (some (g 0)) n cap) n xs):∃cur,w.heap[g]? =some (.cells cur e (0,0)):=by
 rcases h.2 with ⟨hv,_⟩|⟨g2,c2,cur,hv,_,hgg,_⟩
 ·cases hv
 ·cases hv;exact ⟨cur,hgg⟩
theorem own_ne {w:World} {B g cap n size B' g' cap' n' size':Nat} {e e':TypeId} {xs xs':List Value} (h:w.ownsRow B e size (.slice (some (g 0)) n cap) n xs) (h':w.ownsRow B' e' size' (.slice (some (g' 0)) n' cap') n' xs') (he:e≠e'):g≠g':=by
 intro hg;subst hg;obtain ⟨c1,h1⟩:=own_heap h;obtain ⟨c2,h2⟩:=own_heap h';rw [h1] at h2;simp only [Option.some.injEq,Obj.cells.injEq] at h2;exact he h2.2.1
theorem own_apart {w:World} {B n size:Nat} {e:TypeId} {v:Value} {xs:List Value} (h:w.ownsRow B e size v n xs) (x:Addr) (u:Value) (hne:∀q,v.ownBlock=some q→q≠x.block):(w.setCell x u).ownsRow B e size v n xs:=by
 refine ⟨h.1,?_⟩;rcases h.2 with hn|⟨g,cap,cur,rfl,hg,hgg,rest⟩
 ·exact Or.inl hn
 ·exact Or.inr ⟨g,cap,cur,rfl,hg,by rw [Below.heap_setCell w x u g (hne g rfl)];exact hgg,rest⟩
theorem own_apartS {B n size b:Nat} {e:TypeId} {v:Value} {xs:List Value} (hne:∀q,v.ownBlock=some q→q≠b):∀(vs:List Value) (o:Nat) {w:World},w.ownsRow B e size v n xs→(w.setCells b o vs).ownsRow B e size v n xs
 |[],_,_,h=>h
 |u::vs,o,_,h=>own_apartS hne vs (o+1) (own_apart h ⟨b,o,none⟩ u hne)
theorem oflat_set (l:List Dn) (i:Nat) (hi:i<l.length) (x:Dn):setL (oflat l) (i*5) x.cells=oflat (l.set i x):=by
 have h1:l=l.take i++l[i]::l.drop (i+1):=by rw [List.getElem_cons_drop,List.take_append_drop]
 have h2:l.set i x=l.take i++x::l.drop (i+1):=List.set_eq_take_append_cons_drop.trans (if_pos hi);have hl:(oflat (l.take i)).length=i*5:=by rw [oflat_len,List.length_take];congr 1;omega
 have e:∀y:Dn,oflat (l.take i++y::l.drop (i+1))=oflat (l.take i)++y.cells++oflat (l.drop (i+1)):=fun y=>by
  rw [oflat_append,show y::l.drop (i+1)=[y]++l.drop (i+1) from rfl,oflat_append,oflat_one,List.append_assoc]
 rw [h2,e]
 conv=>lhs;arg 1;rw [h1,e]
 rw [←hl];exact setL_mid _ _ _ _ rfl
end Go.Proofs.YtimhaidiclbnhaaGreat.Des
