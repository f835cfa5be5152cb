import Derived.Test.YtimhaidiclbnhaaGreatP09
set_option linter.unusedSimpArgs false
set_option linter.unusedVariables false
set_option maxRecDepth 100000
open Go.ChangeShapes Go.WideShapes Go.ChangeAt Go.RowKit
namespace Go.Proofs.YtimhaidiclbnhaaGreat.Des
structure Fr (w:World) (x:Dv) (W:World) (B R O:Nat) (y:Dv):Prop where
 wk:Wk B W O y
 p0:W.cell? (w 0 0)=some (.slice x.oa x.o.length x.oc)
 p1:W.cell? (w 0 1)=some (.slice x.ta x.t.length x.tc)
 r:At W R [σ,σ]
 bel:Below w w W
 hR:R<B
 hP:w.heap.size<R
theorem Fr.below {w W W':World} {x y:Dv} {B R O:Nat} (h:Fr w x W B R O y) (hb:Below W W W'):Fr w x W' B R O y:=
 ⟨h.wk.below hb,(hb.cell (p:=(w 0 0)) (World.block_lt_of_cell? _ _ h.p0)).trans h.p0,(hb.cell (p:=(w 0 1)) (World.block_lt_of_cell? _ _ h.p1)).trans h.p1,h.r.below hb h.r.hi,h.bel.trans (hb.mono h.bel.size),h.hR,h.hP⟩
theorem Fr.turn {w W W':World} {x y y':Dv} {B R O:Nat} (h:Fr w x W B R O y) (hb:Below B W W') (hk:Wk B W' O y'):Fr w x W' B R O y':=
 ⟨hk,(hb.cell (p:=(w 0 0)) (Nat.lt_trans h.hP h.hR)).trans h.p0,(hb.cell (p:=(w 0 1)) (Nat.lt_trans h.hP h.hR)).trans h.p1,h.r.below hb h.hR,h.bel.trans (hb.mono (Nat.le_of_lt (Nat.lt_trans h.hP h.hR))),h.hR,h.hP⟩
theorem Fr.start {w W0 w1:World} {x y:Dv} {B R:Nat} (h0:W0.cell? (w 0 0)=some (.slice x.oa x.o.length x.oc)) (h1:W0.cell? (w 0 1)=some (.slice x.ta x.t.length x.tc)) (hr:At W0 R [σ,σ])
 (hb0:Below w w W0) (hRB:R<B) (hPR:w.heap.size<R) (hB:B≤W0.heap.size) (hc:DOwn W0.heap.size w1 y) (hb:Below W0 W0 w1):
 Fr w x (w1.alloc (Obj.cells #[.slice y.oa y.o.length y.oc,.slice y.ta y.t.length y.tc] 83)) B R w1.heap.size y:=by
 have hb2:=hb.trans ((Below.refl w1 w1).alloc Nr (Obj.cells #[.slice y.oa y.o.length y.oc,.slice y.ta y.t.length y.tc] 83) |>.mono hb.size);refine ⟨⟨(hc.mono hB).below ((Below.refl w1 w1).alloc Nr _),Bx.new w1 y,Nat.le_trans hB hb.size⟩,?_,?_,hr.below hb2 hr.hi,hb0.trans (hb2.mono hb0.size),hRB,hPR⟩
 ·exact (hb2.cell (p:=(w 0 0)) (World.block_lt_of_cell? _ _ h0)).trans h0
 ·exact (hb2.cell (p:=(w 0 1)) (World.block_lt_of_cell? _ _ h1)).trans h1
theorem ret_ab {W:World} {R:Nat} {u0 u1:Value} (h:At W R [u0,u1]) (a b:Value):At ((W.setCell (R 0) a).setCell (R 1) b) R [a,b]:=(h.set 0 a).set 1 b
theorem DOwn.far {B R:Nat} {W:World} {x:Dv} (h:DOwn B W x) (hR:R<B) (o:Nat) (v:Value):DOwn B (W.setCell (R o) v) x:=
 ⟨own_apart h.o _ _ (fun q hq=>by have:=(h.o.lt q hq).1;show q≠R;omega),own_apart h.t _ _ (fun q hq=>by have:=(h.t.lt q hq).1;show q≠R;omega),fun y hy=>own_apart (h.e y hy) _ _ (fun q hq=>by have:=((h.e y hy).lt q hq).1;show q≠R;omega),h.d⟩
theorem Fr.fin {w W:World} {x y:Dv} {B R O:Nat} (h:Fr w x W B R O y):
 At ((W.setCell (R 0) (.slice y.oa y.o.length y.oc)).setCell (R 1) (.slice y.ta y.t.length y.tc)) R [.slice y.oa y.o.length y.oc,.slice y.ta y.t.length y.tc]∧DAns w x ((W.setCell (R 0) (.slice y.oa y.o.length y.oc)).setCell (R 1) (.slice y.ta y.t.length y.tc)) y∧Below w w ((W.setCell (R 0) (.slice y.oa y.o.length y.oc)).setCell (R 1) (.slice y.ta y.t.length y.tc)):=
 ⟨ret_ab h.r _ _,((h.wk.own.far h.hR _ _).far h.hR _ _).ans (Nat.le_of_lt (Nat.lt_trans h.hP h.hR)),(h.bel.setCell (p:=(R 0)) (Nat.le_of_lt h.hP) _).setCell (p:=(R 1)) (Nat.le_of_lt h.hP) _⟩
theorem ret_in {w W:World} {x:Dv} {R:Nat} (hx:DIn w x) (hr:At W R [σ,σ]) (hb:Below w w W) (hP:w.heap.size<R):
 At ((W.setCell (R 0) (.slice x.oa x.o.length x.oc)).setCell (R 1) (.slice x.ta x.t.length x.tc)) R [.slice x.oa x.o.length x.oc,.slice x.ta x.t.length x.tc]∧DAns w x ((W.setCell (R 0) (.slice x.oa x.o.length x.oc)).setCell (R 1) (.slice x.ta x.t.length x.tc)) x∧Below w w ((W.setCell (R 0) (.slice x.oa x.o.length x.oc)).setCell (R 1) (.slice x.ta x.t.length x.tc)):=by
 have hb2:=(hb.setCell (p:=(R 0)) (Nat.le_of_lt hP) (.slice x.oa x.o.length x.oc)).setCell (p:=(R 1)) (Nat.le_of_lt hP) (.slice x.ta x.t.length x.tc);exact ⟨ret_ab hr _ _,⟨hx.below hb2,fun b h=>Or.inl h⟩,hb2⟩
theorem DOwn.tabAt {B:Nat} {W:World} {y:Dv} (h:DOwn B W y) (i:Nat) (hi:i<y.t.length) (h0:0<(y.t.getD i Tb.nil).l.length):
 ∃g g2,y.ta=some ⟨g,0,none⟩∧(y.t.length:Int)≤y.tc∧(y.tc:Int)≤9223372036854775807∧(y.t.getD i Tb.nil).a=some ⟨g2,0,none⟩∧W.cell? ⟨g,i,none⟩=some (.slice (some ⟨g2,0,none⟩) (y.t.getD i Tb.nil).l.length (y.t.getD i Tb.nil).c)∧((y.t.getD i Tb.nil).l.length:Int)≤(y.t.getD i Tb.nil).c∧((y.t.getD i Tb.nil).c:Int)≤9223372036854775807∧
  (∀j,j<(y.t.getD i Tb.nil).l.length→W.cell? ⟨g2,j,none⟩=some (((y.t.getD i Tb.nil).l.getD j 0):U))∧(∀j,W.frozen? ⟨g2,j,none⟩=false)∧B≤g2∧g2<W.heap.size∧g2≠g:=by
 obtain ⟨g,of,e1,e2,e3,e4,e5⟩:=h.in.row i hi;have hz:=own_zero h.t e1;subst hz;obtain ⟨g2,o2,f1,f2,f3,f4,_⟩:=h.in.num i hi 0 h0;have hmem:y.t.getD i Tb.nil∈y.t:=by rw [getD_get hi];exact List.getElem_mem hi
 have hown:=h.e _ hmem;have hz2:=own_zero hown f1;subst hz2;have hown2:=hown;unfold Tb.val at hown2;rw [f1] at hown2;have ho3:=h.t;rw [e1] at ho3;rw [f1,Nat.zero_add] at e5;refine ⟨g,g2,e1,e3,e4,f1,e5,f3,f4,fun j hj=>?_,fun j=>own_free hown2,(own_lt hown2).1,f2,?_⟩
 ·obtain ⟨g3,o3,k1,k2,k3,k4,k5⟩:=h.in.num i hi j hj;have hz3:=own_zero hown k1;subst hz3;rw [f1] at k1;cases k1;rwa [Nat.zero_add] at k5
 ·exact own_ne hown2 ho3 b14
theorem DOwn.descAt {B:Nat} {W:World} {y:Dv} (h:DOwn B W y) (i:Nat) (hi:i<y.o.length):
 ∃g,y.oa=some ⟨g,0,none⟩∧(y.o.length:Int)≤y.oc∧(y.oc:Int)≤9223372036854775807∧DCel W g (i*5) (y.o.getD i Dn.zero)∧(∀j,W.frozen? ⟨g,j,none⟩=false)∧B≤g∧g<W.heap.size:=by
 obtain ⟨g,of,e1,e2,e3,e4,e5⟩:=h.in.desc i hi;have hz:=own_zero h.o e1;subst hz;have ho:=h.o;rw [e1] at ho;refine ⟨g,e1,e3,e4,DCel.of (by rwa [Nat.zero_add] at e5),fun j=>own_free ho,(own_lt ho).1,e2⟩
structure ESz (d:De):Prop where
 o:d.o.length≤9000
 t:d.t.length≤1000
 e:∀l∈d.t,l.length≤10000
theorem ESz.sz {d:De} {x:Dv} (h:ESz d) (e:x.pl=d):DSz x:=by
 subst e;exact ⟨Nat.le_trans h.o b10,by have:=h.t;rwa [pl_t] at this,fun y hy=>h.e _ (List.mem_map_of_mem hy)⟩
theorem check_sz {d:De} (h:checkV d=true):ESz d:=by
 have h1:=check_len h;refine ⟨by omega,by omega,fun l hl=>?_⟩;obtain ⟨i,hi,rfl⟩:=List.getElem_of_mem hl;have:=(check_tab h i hi).1;rw [getD_get hi] at this;omega
end Go.Proofs.YtimhaidiclbnhaaGreat.Des
namespace Go.Proofs.YtimhaidiclbnhaaGreat.Ara
theorem two_copies2 (A X C R:List Value) (i k:Nat) (hA:A.length=i*5) (hX:X.length=5) (hR:R.take (i*5)=A):
 (R.take (i*5)++X++R.drop (i*5+X.length)).take ((i+1)*5)++C++(R.take (i*5)++X++R.drop (i*5+X.length)).drop ((i+1)*5+C.length)=A++X++C++(R.take (i*5)++X++R.drop (i*5+X.length)).drop ((i+1)*5+C.length):=by
 congr 2
 have h5:(A++X).length=(i+1)*5:=by rw [List.length_append];omega
 rw [hR,←h5,List.take_left]
theorem zeros_size (n:Nat):(Builtin.zeroCells (Value.agg #[I,I,I,I,.bool false]).cells n).size=n*5:=by
 simp [Builtin.zeroCells,Value.cells]
set_option maxHeartbeats 4000000 in
theorem insert_grow (B g cap i vb:Nat) (l:List Ar) (x:Ar) (w:World) (ho:w.ownsRow B 139 5 (.slice (some (g 0)) l.length cap) l.length (flat l)) (hB:B≤w.heap.size) (hl:l.length≤100) (hi:i<l.length) (hroom:cap=l.length) (hv:Blk w vb x):
 Calls Tryz.prog 134 #[.slice (some (g 0)) l.length cap,i,.slice (some (vb 0)) 1 1] w (InsPost B l i x w):=by
 obtain ⟨i0,hinf,hz0,hz1,hz2⟩:=info_parts area_info;have hsz:(Tryz.prog.info? 139).map (·.size)=some 5:=by rw [hinf];simp [hz1]
 obtain ⟨_,⟨hno,_⟩|⟨g',cap',cur,hge,hBg,hgg,_,hcm,hcs,htk⟩⟩:=ho
 ·cases hno
 cases hge;unfold maxLen at hcm;subst hroom;have hfl:=flat_len l;have hgw:g<w.heap.size:=(Array.getElem?_eq_some_iff.1 hgg).1;have hcl:cur.toList=flat l:=by rw [←htk,List.take_of_length_le (by simp [hcs])]
 have hdl:(flat (l.drop i)).length=(l.length-i)*5:=by rw [flat_len,List.length_drop]
 have hal:(flat (l.take i)).length=i*5:=by rw [flat_len,List.length_take];congr 1;omega
 have hcellw:∀j v,(flat l)[j]? =some v→w.cell? (g j)=some v:=by
  intro j v hj;simp only [World.cell?,hgg];rw [←Array.getElem?_toList,hcl];exact hj
 have hx1:∀v∈x.cells,v.oneCell'=true:=by
  intro u hu;simp [Ar.cells] at hu;rcases hu with rfl|rfl|rfl|rfl|rfl<;>rfl
 have hf1:∀v∈flat (l.drop i),v.oneCell'=true:=by
  exact cl64
 have hold:(Builtin.firstCells i0.size i (.slice (some (g 0)) i l.length)).run Tryz.prog w.drew=.ok (flat (l.take i)).toArray w.drew:=by
  rw [hz1]; exact run_firstCells_some w.drew 5 i ⟨g, 0, none⟩ i l.length (flat (l.take i)) hal (fun j v hj=>by
   rw [Addr.add_lit,Nat.zero_add];rw [←flat_take l i b10,List.getElem?_take] at hj;split at hj
   ·exact hcellw j v hj
   ·cases hj)
 obtain ⟨G,hG⟩:∃G,G=grownCap w (l.length+1) l.length 139:=⟨_,rfl⟩
 have hGn:l.length+1≤G:=by rw [hG];exact grownCap_ge w _ _ _
 have hG63:G≤9223372036854775807:=by
  have:=grownCap_le_maxLen w (l.length+1) l.length 139 b17;rw [←hG] at this;unfold maxLen at this;omega
 obtain ⟨cur0,hcur0⟩:∃cur0:Array Value,cur0=(flat (l.take i)).toArray++Builtin.zeroCells (Value.agg #[I,I,I,I,.bool false]).cells (l.length+1-i)++Builtin.zeroCells (Value.agg #[I,I,I,I,.bool false]).cells (G-(l.length+1)):=⟨_,rfl⟩
 have hsz0:cur0.size=G*5:=by
  rw [hcur0,Array.size_append,Array.size_append,zeros_size,zeros_size];show (flat (l.take i)).length+_+_=_;omega
 have hA0:cur0.toList.take (i*5)=flat (l.take i):=by
  rw [hcur0,Array.toList_append,Array.toList_append,List.append_assoc,←hal];exact List.take_left
 obtain ⟨N,hN⟩:∃N,N=w.heap.size:=⟨_,rfl⟩
 obtain ⟨W1,hW1⟩:∃W1,W1=w.drew.alloc (.cells cur0 139):=⟨_,rfl⟩
 have hik:i+(l.length+1-i)=l.length+1:=b10;have hkk:(l.length:Int)+1-(i:Int)=((l.length+1-i:Nat):Int):=b10;have hrz:∀ty,(Builtin.append_ #[106,3] ty #[.slice (some (g 0)) i l.length,.int .i64 ((l.length:Int)+1-(i:Int))]).run Tryz.prog w=.ok (.slice (some ⟨N,0,none⟩) (l.length+1) G) W1:=fun ty=>by
  have h:=Lib.run_append_grow_zeros (P:=Tryz.prog) w 106 3 ty 139 i0 _ .i64 .i64 Tryz.underlying106 Tryz.underlying3 hinf hz0 (some ⟨g,0,none⟩) i l.length (flat (l.take i)) hold (l.length+1-i) b10 b10 b10 b10 (by rw [hz2];omega) (by rw [hz2,hik];exact growslice_fits b10 b10);rw [hik,←hG,←hcur0,←hW1,←hN] at h;rw [hkk];exact h
 have hg1:W1.heap[N]? =some (.cells cur0 139 (0,0)):=by rw [hW1,hN];exact heap_alloc_new w.drew _
 have hb1:Below B w W1:=by rw [hW1];exact (Below.drew Br).alloc hB _
 have hNg:∀k,k<w.heap.size→∀o,W1.cell? ⟨k,o,none⟩=w.cell? ⟨k,o,none⟩:=fun k hk o=>by
  rw [hW1];exact World.cell?_of_block (w:=w) (a:=⟨k,o,none⟩) (heap_alloc_old w.drew _ hk)
 obtain ⟨cur1,hcur1⟩:∃cur1:Array Value,cur1=(cur0.toList.take (i*5)++x.cells++cur0.toList.drop (i*5+x.cells.length)).toArray:=⟨_,rfl⟩
 obtain ⟨cur2,hcur2⟩:∃cur2:Array Value,cur2=(cur1.toList.take ((i+1)*5)++flat (l.drop i)++cur1.toList.drop ((i+1)*5+(flat (l.drop i)).length)).toArray:=⟨_,rfl⟩
 have hc0n:cur0.toList.length=G*5:=by simpa using hsz0
 have hsz1:cur1.size=G*5:=by
  have h6:=congrArg Array.size hcur1;simp only [List.size_toArray,List.length_append,List.length_take,List.length_drop,hc0n] at h6;have hx:x.cells.length=5:=rfl;omega
 have hfin:cur2.toList=flat (l.take i)++x.cells++flat (l.drop i)++cur1.toList.drop ((i+1)*5+(flat (l.drop i)).length):=by
  rw [hcur2,hcur1];exact two_copies2 (flat (l.take i)) x.cells (flat (l.drop i)) cur0.toList i 0 hal rfl hA0
 have hc1n:cur1.toList.length=G*5:=by simpa using hsz1
 have hsz2:cur2.size=G*5:=by
  have:=congrArg List.length hfin;simp only [List.length_append,List.length_drop,hc1n,hdl,hal] at this;have hx:x.cells.length=5:=rfl;have h5:cur2.toList.length=cur2.size:=b11;omega
 obtain ⟨W2,hW2⟩:∃W2:World,W2=W1.setRow N cur1:=⟨_,rfl⟩
 obtain ⟨W3,hW3⟩:∃W3:World,W3=W2.drew.setRow N cur2:=⟨_,rfl⟩
 have hg2:W2.heap[N]? =some (.cells cur1 139 (0,0)):=by rw [hW2];exact setRow_heap _ N _ _ _ _ hg1
 have hg3:W3.heap[N]? =some (.cells cur2 139 (0,0)):=by rw [hW3];exact setRow_heap _ N _ _ _ _ hg2
 have hBN:B≤N:=by rw [hN];exact hB
 have hb2:Below B w W2:=by rw [hW2];exact below_setRow hb1 hBN _
 have hb3:Below B w W3:=by rw [hW3];exact below_setRow (Below.drew hb2) hBN _
 have HP:Hid (InsPost B l i x w (.returned (.slice (some ⟨N,0,none⟩) (l.length+1) G)) W3):=by
  refine ⟨_,_,rfl,⟨?_,Or.inr ⟨N,G,cur2,rfl,hBN,hg3,hGn,by unfold maxLen;omega,hsz2,?_⟩⟩,hb3⟩
  ·rw [flat_len];simp [insAt];omega
  ·rw [flat_insAt,hfin,List.take_left' ?_];simp only [List.length_append,hdl,hal];have hx:x.cells.length=5:=rfl;omega
 have hvc:∀j v,x.cells[j]? =some v→W1.cell? ((⟨vb,0,none⟩:Addr).add j)=some v:=by
  intro j v hj;have hj5:j<5:=(List.getElem?_eq_some_iff.1 hj).1;rw [Addr.add_lit,Nat.zero_add,hNg vb hv.hi];exact cl74
 have hgN:g≠N:=b10;have hsc:∀j v,(flat (l.drop i))[j]? =some v→W2.drew.cell? ((⟨g,i*5,none⟩:Addr).add j)=some v:=by
  intro j v hj;rw [Addr.add_lit];have hco:W2.drew.cell? (g (i*5+j))=W1.cell? (g (i*5+j)):=by
   rw [hW2];exact World.cell?_of_block (w:=W1) (a:=⟨g,i*5+j,none⟩) (setRow_other _ N g _ hgN)
  rw [hco,hNg g hgw];rw [←flat_drop l i b10,List.getElem?_drop] at hj;exact hcellw _ v hj
 have hcp1:∀ty dc,(Builtin.copy_ #[106,106] ty #[.slice (some ⟨N,i*5,none⟩) (l.length+1-i) dc,.slice (some (vb 0)) 1 1]).run Tryz.prog W1=.ok (goInt 1) W2:=fun ty dc=>by
  rw [hW2,hcur1];exact run_copy_sz Tryz.prog W1 106 106 ty 139 5 N (i*5) _ dc ⟨vb,0,none⟩ 1 1 cur0 139 x.cells Tryz.underlying106 hsz hg1 1 b92 rfl hvc (by rw [hsz0];show i*5+5≤_;omega) hx1
 have hcp2:∀ty dc sc,(Builtin.copy_ #[106,106] ty #[.slice (some ⟨N,(i+1)*5,none⟩) (l.length-i) dc,.slice (some (g (i*5))) (l.length-i) sc]).run Tryz.prog W2.drew=.ok (goInt ((l.length-i:Nat):Int)) W3:=fun ty dc sc=>by
  rw [hW3,hcur2];exact run_copy_sz Tryz.prog W2.drew 106 106 ty 139 5 N ((i+1)*5) _ dc ⟨g,i*5,none⟩ _ sc cur1 139 (flat (l.drop i)) Tryz.underlying106 hsz hg2 (l.length-i) b92 hdl hsc (by rw [hdl,hsz1];omega) hf1
 have hz2:¬((i:Int)=(l.length:Int)):=b10;have hw1:IntKind.i64.wrap ((i:Int)+1)=(i:Int)+1:=IntWalk.i64_in _ b10;have hil:(i:Int)<(l.length:Int):=b10;have HC2:=Hd hcp2;clear hcp2 hsc hvc hx1 hf1 hW1 hW2 hW3 hcur0 hcur1 hcur2 hfin hsz0 hsz1 hsz2 hg1 hg2 hg3 hb1 hb2 hb3 hdl hcl htk hgg hv hcs hfl hold hA0 hc0n hc1n hNg hcellw hN hG hBN hkk hik hal;generalize l.length=n at *;have hb3:(i:Int)≤(n:Int)+1:=b10;have hcap2:(i:Int)+1≤(n:Int)+1:=b10;have mixed:Tryz.prog.follows Departure.mixedOrders=true:=by kernel_rfl
 have hb1:(0:Int)≤(i:Int)+1:=b10;have htn:((i:Int)+1).toNat=i+1:=b10;have hb2:¬(G=i+1):=b10;have hb4:¬(G=i):=b10;have hb6:¬(n=i):=b10;have hb5:i≤n:=b10;have hn3:(n:Int)<(n:Int)+1:=b10;go_enter Tryz.func134,Tryz.ntmps134;go_wp2_with (at_builtin;refine Lib.wpList_append_run _ rfl _ _ _ _ rfl _ _ rfl rfl _ _ (hrz _) ?_)
 go_region_law_o (refine step_copy_runI rfl _ _ 106 106 rfl (.slice (some ⟨N,(i+1)*5,none⟩) (n-i) (G-(i+1))) (.slice (some (g (i*5))) (n-i) (n-i)) b30 b30 (HC2.out 3 (G-(i+1)) (n-i)) ?_);go_wp2_with fail;go_ret;exact HP.out
end Go.Proofs.YtimhaidiclbnhaaGreat.Ara
namespace Go.Proofs.YtimhaidiclbnhaaGreat.Con
def StrRow (B:Nat) (a:Option Addr) (cap:Nat) (l:List ByteArray) (w:World):Prop:=
 (a=none∧l=[]∧cap=0)∨∃g,a=some ⟨g,0,none⟩∧B≤g∧g<w.heap.size∧l.length≤cap∧cap≤maxLen∧∀j,j<l.length→w.cell? ⟨g,j,none⟩=some (.string (l.getD j ByteArray.empty))
theorem StrRow.mono {B C cap:Nat} {a:Option Addr} {l:List ByteArray} {w:World} (h:StrRow B a cap l w) (hc:C≤B):StrRow C a cap l w:=by
 rcases h with h|⟨g,h1,h2,h3,h4⟩
 ·exact Or.inl h
 ·exact Or.inr ⟨g,h1,Nat.le_trans hc h2,h3,h4⟩
theorem StrRow.below {B cap:Nat} {a:Option Addr} {l:List ByteArray} {w w':World} (h:StrRow B a cap l w) (hb:Below w w w'):StrRow B a cap l w':=by
 rcases h with h|⟨g,h1,h2,h3,h4,h5,h6⟩
 ·exact Or.inl h
 ·exact Or.inr ⟨g,h1,h2,Nat.lt_of_lt_of_le h3 hb.size,h4,h5,fun j hj=>by rw [hb.cell (p:=(g j)) h3];exact h6 j hj⟩
theorem StrRow.ofOwn {B n:Nat} {v:Value} {l:List ByteArray} {w:World} (h:w.ownsRow B 9 1 v n (l.map Value.string)):∃a cap,v=.slice a l.length cap∧n=l.length∧StrRow B a cap l w:=by
 have hl:n=l.length:=by have:=h.1;simp at this;omega
 subst hl;rcases h.2 with ⟨hv,hn⟩|⟨g,cap,cur,hv,_,_,hc1,hc2,_⟩
 ·refine ⟨none,0,?_,rfl,Or.inl ⟨rfl,List.length_eq_zero_iff.1 hn,rfl⟩⟩;rw [hv,hn]
 ·refine ⟨some ⟨g,0,none⟩,cap,hv,rfl,Or.inr ⟨g,rfl,?_,?_,hc1,hc2,?_⟩⟩
  ·exact (h.lt g b50).1
  ·exact (h.lt g b50).2
  ·intro j hj;have:=h.cells (g:=g) b50 j (.string (l.getD j ByteArray.empty)) (by simp [List.getD,hj]);rw [Addr.add_lit] at this;simpa using this
theorem clone_any (B:Nat) (a:Option Addr) (l:List ByteArray) (cap:Nat) (w:World) (h:StrRow B a cap l w) (hl:l.length≤100000):
 Calls Tryz.prog 64 #[.slice a l.length cap] w fun e w'=>∃v',e=.returned v'∧w'.ownsRow w.heap.size 9 1 v' l.length (l.map Value.string)∧Below w w w':=by
 rcases h with ⟨rfl,rfl,rfl⟩|⟨g,rfl,h2,h3,h4,h5,h6⟩
 ·refine (Tryz.slices_Clone_string_nil _ _ _).mono ?_;rintro e w' ⟨rfl,rfl⟩;exact ⟨_,rfl,⟨by simp,Or.inl ⟨rfl,rfl⟩⟩,Below.refl _ _⟩
 ·refine (Tryz.slices_Clone_string g 0 l.length cap l w Nr b10 (fun j hj=>by rw [Nat.zero_add];exact h6 j hj)).mono ?_;rintro e w' ⟨v',rfl,ho,_,hb⟩;rw [List.take_length] at ho;exact ⟨v',rfl,ho,hb⟩
theorem str_info:(Tryz.prog.info? 9).map (fun i=>(i.zero,i.size,i.bytes))=some (some (.string ⟨#[]⟩),1,16):=by kernel_rfl
theorem wp_app {o:Oper} {a:Act} {w:World} {K:Act→World→Prop} {Q:Exit→Act→World→Prop} (s x:Operand)
 (ho:o.op=.call {callee:=.builtin .append,args:=#[s,x],argTypes:=#[47,47]})
 (base:Nat) (v:Value) (l:List ByteArray) (hs:a.eval s=v) (hown:w.ownsRow base 9 1 v l.length (l.map Value.string))
 (B:Nat) (ad:Option Addr) (m:List ByteArray) (cap:Nat) (hx:a.eval x=.slice ad m.length cap) (hr:StrRow B ad cap m w)
 (hl:l.length≤100000) (hm:m.length≤100000) (hbase:base≤w.heap.size)
 (h:∀a' cap' w',w'.ownsRow base 9 1 (.slice a' (l++m).length cap') (l++m).length ((l++m).map Value.string)→StrRow base a' cap' (l++m) w'→Below base w w'→K (a.put o.dst (.slice a' (l++m).length cap')) w'):o.wp Tryz.prog a w K Q:=by
 obtain ⟨i0,hi,hz0,hz1,hz2⟩:=info_parts str_info;have key:∃v' w',(Builtin.append_ #[47,47] o.type #[v,.slice ad m.length cap]).run Tryz.prog w=.ok v' w'∧w'.ownsRow base 9 1 v' (l++m).length ((l++m).map Value.string)∧Below base w w':=by
  rcases hr with ⟨rfl,rfl,rfl⟩|⟨g,rfl,h2,h3,h4,h5,h6⟩
  ·refine ⟨v,w,run_append_owned_none (P:=Tryz.prog) (w:=w) base 47 o.type 9 i0 1 Tryz.underlying47 hi v _ _ hown,?_,Below.refl _ _⟩;rw [List.append_nil];exact hown
  ·obtain ⟨v', w', hrun, e2, e3, _⟩ := run_append_own (P := Tryz.prog) (w := w) base 47 o.type 9 i0 (.string ⟨#[]⟩) 1 16 Tryz.underlying47 hi hz0 hz1 hz2 rfl b14 v _ _ hown ⟨g, 0, none⟩ m.length cap (m.map Value.string) b11 (by
    intro j u hj;have hjm:j<m.length:=by
     have:=(List.getElem?_eq_some_iff.1 hj).1;simpa using this
    rw [Addr.add_lit,Nat.zero_add,h6 j hjm];have e:(m.map Value.string)[j]? =some (Value.string (m.getD j ByteArray.empty)):=by simp [List.getD,hjm]
    rw [e] at hj;exact hj) (by intro u hu;obtain ⟨x,_,rfl⟩:=List.mem_map.1 hu;rfl) b17 b10 hbase
   refine ⟨v',w',hrun,?_,(Below.refl base w).grown e3 hbase (fun k hk=>(hown.lt k hk).1)⟩;rw [List.map_append,List.length_append];exact e2
 obtain ⟨v',w',hrun,e2,e3⟩:=key;unfold Oper.wp execOp;simp only [ho,resolve,invoke,builtin,Sem.run_bind,Sem.run_pure,Result.andThen_ok,List.map_toArray,List.map_cons,List.map_nil,hs,hx,hrun];obtain ⟨a',cap',rfl,_,hr2⟩:=StrRow.ofOwn e2;exact h a' cap' w' e2 hr2 e3
structure Hst (w W:World) (s0:Value) (q:Int):Prop where
 bel:Below w w W
 lt:w.heap.size+2≤W.heap.size
 p0:W.cell? (w 0 0)=some s0
 p1:W.cell? (w 0 1)=some (q:U)
 r0:∃u,W.cell? (w 1 0)=some u
 r1:∃u,W.cell? (w 1 1)=some u
 f0:W.frozen? (w 1 0)=false
 f1:W.frozen? (w 1 1)=false
theorem Hst.below {w W W':World} {s0:Value} {q:Int} {B:Nat} (h:Hst w W s0 q) (hb:Below B W W') (hB:w.heap.size+2≤B):Hst w W' s0 q where
 bel:=h.bel.trans (hb.mono b10)
 lt:=Nat.le_trans h.lt hb.size
 p0:=by rw [hb.cell (by show w.heap.size<B;omega)];exact h.p0
 p1:=by rw [hb.cell (by show w.heap.size<B;omega)];exact h.p1
 r0:=by rw [hb.cell b93];exact h.r0
 r1:=by rw [hb.cell b93];exact h.r1
 f0:=by rw [hb.frozen b93];exact h.f0
 f1:=by rw [hb.frozen b93];exact h.f1
theorem Hst.start (w:World) (s0:Value) (q:Int):Hst w ((w.alloc (Obj.cells #[s0,q] 57)).alloc (Obj.cells #[σ,I] 57)) s0 q:=by
 refine ⟨((Below.refl _ w).alloc Nr _).alloc b11 _,by simp,?_,?_,⟨.slice none 0 0,?_⟩,⟨.int .i64 0,?_⟩,?_,?_⟩<;>simp
theorem Hst.done {w W:World} {s0:Value} {q:Int} (h:Hst w W s0 q) (v:Value) (q':Int) {a:Option Addr} {cap:Nat} {l:List ByteArray} (hr:StrRow (w.heap.size+2) a cap l W):
 ((W.setCell (w 1 0) v).setCell (w 1 1) q').cell? (w 1 0)=some v∧
 ((W.setCell (w 1 0) v).setCell (w 1 1) q').cell? (w 1 1)=some (q':U)∧
 Below w w ((W.setCell (w 1 0) v).setCell (w 1 1) q')∧
 StrRow w.heap.size a cap l ((W.setCell (w 1 0) v).setCell (w 1 1) q'):=by
 obtain ⟨u0,r0⟩:=h.r0;obtain ⟨u1,r1⟩:=h.r1;have r1':(W.setCell (w 1 0) v).cell? (w 1 1)=some u1:=by
  rw [World.cell?_setCell_other _ _ _ _ b11,r1]
 refine ⟨?_,?_,(h.bel.setCell (by show w.heap.size≤w.heap.size+1;omega) v).setCell (by show w.heap.size≤w.heap.size+1;omega) _,?_⟩
 ·rw [World.cell?_setCell_other _ _ _ _ b11];exact World.cell?_setCell_same _ _ _ r0
 ·exact World.cell?_setCell_same _ _ _ r1'
 ·rcases hr with hr|⟨g,h1,h2,h3,h4,h5,h6⟩
  ·exact Or.inl hr
  ·refine Or.inr ⟨g,h1,by omega,by simpa [World.setCell] using h3,h4,h5,fun j hj=>?_⟩;rw [World.cell?_setCell_other _ _ _ _ b71,World.cell?_setCell_other _ _ _ _ b71];exact h6 j hj
end Go.Proofs.YtimhaidiclbnhaaGreat.Con
