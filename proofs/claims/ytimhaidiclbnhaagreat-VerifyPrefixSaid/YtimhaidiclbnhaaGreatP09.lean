import Derived.Test.YtimhaidiclbnhaaGreatP08
set_option linter.unusedSimpArgs false
set_option linter.unusedVariables false
set_option maxRecDepth 100000
open Go.ChangeShapes Go.WideShapes Go.ChangeAt Go.RowKit
namespace Go.Proofs.YtimhaidiclbnhaaGreat.Des
theorem alloc_size (W:World) (o:Obj):(W.alloc o).heap.size=W.heap.size+1:=b11
def DBlk (x:Dv) (b:Nat):Prop:=(∃q,x.oa=some q∧q.block=b)∨(∃q,x.ta=some q∧q.block=b)∨∃y,y∈x.t∧∃q,y.a=some q∧q.block=b
structure DAns (w:World) (x:Dv) (w':World) (y:Dv):Prop where
 di:DIn w' y
 blk:∀b,DBlk y b→DBlk x b∨w.heap.size≤b
theorem DOwn.blk {B:Nat} {W:World} {y:Dv} (h:DOwn B W y) {b:Nat} (hb:DBlk y b):B≤b∧b<W.heap.size:=by
 rcases hb with ⟨q,h1,h2⟩|⟨q,h1,h2⟩|⟨z,hz,q,h1,h2⟩
 ·exact h.o.lt b (by rw [h1,←h2];rfl)
 ·exact h.t.lt b (by rw [h1,←h2];rfl)
 ·exact (h.e z hz).lt b (by unfold Tb.val;rw [h1,←h2];rfl)
theorem DOwn.ans {B:Nat} {w W:World} {x y:Dv} (h:DOwn B W y) (hB:w.heap.size≤B):DAns w x W y:=⟨h.in,fun b hb=>Or.inr (Nat.le_trans hB (h.blk hb).1)⟩
def OutP (w:World) (x:Dv) (d:De) (f:Value→Value) (e:Ending) (w':World):Prop:=∃y:Dv,e=.returned (f (dVal y))∧y.pl=d∧DAns w x w' y∧Below w w w'
def newD (p:Int):De:=if 1≤p∧p≤8 then ⟨[],List.replicate p.toNat (List.replicate 16 0)⟩ else ⟨[],[]⟩
def newE (p:Int):Int:=if 1≤p∧p≤8 then 0 else 2
namespace Atlt
theorem km5 {p : Prop} (h:p:=by
 go_region_law (refine step_append_runI rfl (.tmp 16) (.tmp 18) 81 rfl (.slice y.ta y.t.length y.tc) (.slice (some (wr 1 0)) 1 1) b30 b30 HAP.out ?_)
 all_goals
  clear HAP;go_wp2_with fail;go_roundw
  case rel=>exact ⟨k+1,⟨y.oa,y.oc,y.o,aN,cN,y.t++[yn]⟩,by omega,by go_num,⟨HY.out.1,HYN.out⟩,HWN,HRN,HBN⟩
  case measure=>simp [intOf];omega):p:=h
theorem km30 {p : Prop} (h:p:=by
 exact bodyPost_ret (v:=.tuple #[.agg #[.slice y.oa y.o.length y.oc,.slice y.ta y.t.length y.tc],I]) (by simp [results,Tryz.results36,go_sem,e0,e1]) rfl HPo.out):p:=h
theorem km54 {p : Prop} (h:p:=by
 go_enter Tryz.func36,Tryz.ntmps36;go_wp2_with fail;generalize ((w.alloc (Obj.cells #[σ,σ] 83)).alloc (Obj.cells #[σ,σ] 83))=w0 at *;go_loopw [13] (fun v wr=>∃(k:Nat) (y:Dv),k≤n∧v=.int .i64 k∧Hid (y.o=[]∧y.t.map Tb.l=List.replicate k (List.replicate 16 0))∧Hid (Wk (w.heap.size+1) wr (w.heap.size+1) y)∧Hid (At wr w.heap.size [σ,σ])∧Hid (Below w w wr)) (fun v _=>100-(intOf v).toNat)
 case atStart=>exact ⟨0,Dv.nil,Nat.zero_le _,rfl,⟨rfl,rfl⟩,HW,HR,HB⟩
 case round=>
  clear HW HR HB;obtain ⟨k,y,hk,rfl,HY,HW,HR,HB⟩:=hrel;obtain ⟨x0,x1,x2,x3,x4⟩:=HW.out.box.cc;by_cases hlt:k<n
  ·exact cm5
  ·exact cm30):p:=h
theorem km87 {p : Prop} (h:p:=by
 go_enter Tryz.func36,Tryz.ntmps36;go_wp2_with fail
 all_goals first|(exfalso;have:=HN.out;omega)|exact bodyPost_ret (v:=.tuple #[.agg #[σ,σ],(2:Int)]) (by simp [results,Tryz.results36,go_sem]) rfl HPo.out):p:=h
theorem km110 {p : Prop} (h:p:=by
 by_cases hp:1≤p∧p≤8
 ·exact cm54
 ·exact cm87):p:=h
end Atlt
open Atlt in
set_option maxHeartbeats 4000000 in
theorem new25_any (p:Int) (w:World):Calls Tryz.prog 36 #[p] w (OutP w Dv.nil (newD p) (fun v=>.tuple #[v,(newE p)])):=by
 exact cm110
namespace As1y
theorem km5 {p : Prop} (h:p:=by
 go_region_law (refine step_append_runI rfl (.tmp 19) (.tmp 21) 81 rfl (.slice y.ta y.t.length y.tc) (.slice (some (wr 1 0)) 1 1) b30 b30 HAP.out ?_)
 all_goals
  clear HAP;go_wp2_with fail;go_roundw
  case rel=>exact ⟨k+1,⟨y.oa,y.oc,y.o,aN,cN,y.t++[yn]⟩,by omega,by go_num,⟨HY.out.1,HYN.out⟩,HWN,HRN,HBN⟩
  case measure=>simp [intOf];omega):p:=h
theorem km30 {p : Prop} (h:p:=by
 exact bodyPost_ret (v:=.tuple #[.agg #[.slice y.oa y.o.length y.oc,.slice y.ta y.t.length y.tc],I]) (by simp [results,Tryz.results42,go_sem,e0,e1]) rfl HPo.out):p:=h
theorem km54 {p : Prop} (h:p:=by
 go_enter Tryz.func42,Tryz.ntmps42;go_wp2_with fail;generalize ((w.alloc (Obj.cells #[σ,σ] 83)).alloc (Obj.cells #[σ,σ] 83))=w0 at *;go_loopw [5] (fun v wr=>∃(k:Nat) (y:Dv),k≤n∧v=.int .i64 k∧Hid (y.o=[]∧y.t.map Tb.l=List.replicate k (List.replicate 16 0))∧Hid (Wk (w.heap.size+1) wr (w.heap.size+1) y)∧Hid (At wr w.heap.size [σ,σ])∧Hid (Below w w wr)) (fun v _=>100-(intOf v).toNat)
 case atStart=>exact ⟨0,Dv.nil,Nat.zero_le _,rfl,⟨rfl,rfl⟩,HW,HR,HB⟩
 case round=>
  clear HW HR HB;obtain ⟨k,y,hk,rfl,HY,HW,HR,HB⟩:=hrel;obtain ⟨x0,x1,x2,x3,x4⟩:=HW.out.box.cc;by_cases hlt:k<n
  ·exact cm5
  ·exact cm30):p:=h
theorem km87 {p : Prop} (h:p:=by
 go_enter Tryz.func42,Tryz.ntmps42;go_wp2_with fail
 all_goals first|(exfalso;have:=HN.out;omega)|exact bodyPost_ret (v:=.tuple #[.agg #[σ,σ],(2:Int)]) (by simp [results,Tryz.results42,go_sem]) rfl HPo.out):p:=h
theorem km110 {p : Prop} (h:p:=by
 by_cases hp:1≤p∧p≤8
 ·exact cm54
 ·exact cm87):p:=h
end As1y
open As1y in
set_option maxHeartbeats 4000000 in
theorem new26_any (p:Int) (w:World):Calls Tryz.prog 42 #[p] w (OutP w Dv.nil (newD p) (fun v=>.tuple #[v,(newE p)])):=by
 exact cm110
end Go.Proofs.YtimhaidiclbnhaaGreat.Des
namespace Go.Proofs.YtimhaidiclbnhaaGreat.Ara
def insAt (l:List Ar) (i:Nat) (x:Ar):List Ar:=l.take i++x::l.drop i
def InsPost (B:Nat) (l:List Ar) (i:Nat) (x:Ar) (w:World) (e:Ending) (w':World):Prop:=
 ∃a c,e=.returned (.slice a (l.length+1) c)∧w'.ownsRow B 139 5 (.slice a (l.length+1) c) (l.length+1) (flat (insAt l i x))∧Below B w w'
theorem insPost_of {B:Nat} {l:List Ar} {x:Ar} {v0 v':Value} {w w':World} (h:w'.ownsRow B 139 5 v' (l.length+1) (flat l++[.int .i64 x.st,.int .i64 x.cn,.int .i64 x.fi,.int .i64 x.pg,.bool x.wr])) (hg:w.grownBy w' v0.ownBlock)
 (ho:w.ownsRow B 139 5 v0 l.length (flat l)) (hB:B≤w.heap.size):InsPost B l l.length x w (.returned v') w':=by
 have he:flat l++[.int .i64 x.st,.int .i64 x.cn,.int .i64 x.fi,.int .i64 x.pg,.bool x.wr]=flat (l++[x]):=by rw [flat_append,flat_one];rfl
 rw [he,show l.length+1=(l++[x]).length from by simp] at h;obtain ⟨a,c,rfl,_,_⟩:=ARow.ofOwn h;rw [show (l++[x]).length=l.length+1 from by simp] at h ⊢;refine ⟨a,c,rfl,?_,(Below.refl B w).grown hg hB (fun k hk=>(ho.lt k hk).1)⟩;rw [show insAt l l.length x=l++[x] from by simp [insAt]];exact h
set_option maxHeartbeats 2000000 in
theorem insert_end (B:Nat) (a:Option Addr) (cap:Nat) (l:List Ar) (x:Ar) (vb:Nat) (w:World) (ho:w.ownsRow B 139 5 (.slice a l.length cap) l.length (flat l)) (hB:B≤w.heap.size) (hl:l.length≤100) (hv:Cel w vb 0 x):
 Calls Tryz.prog 134 #[.slice a l.length cap,l.length,.slice (some (vb 0)) 1 1] w (InsPost B l l.length x w):=by
 obtain ⟨i0,hi,hz0,hz1,hz2⟩:=info_parts area_info;have hcap:(l.length:Int)≤cap:=by
  rcases ho.2 with ⟨h,h2⟩|⟨g,c,cur,h,_,_,h3,_⟩
  ·rw [h2];omega
  ·cases h;omega
 obtain ⟨s,c,f,p,b⟩:=x;have HV5:Hid (∀j u,[Value.int .i64 s,c,f,p,.bool b][j]? =some u→w.cell? (vb (0+j))=some u):=by
  intro j u hj;have hj5:j<5:=by simpa using (List.getElem?_eq_some_iff.1 hj).1
  have h5:j=0∨j=1∨j=2∨j=3∨j=4:=b10;rcases h5 with rfl|rfl|rfl|rfl|rfl<;>simp at hj<;>subst hj
  ·exact hv.c0
  ·exact hv.c1
  ·exact hv.c2
  ·exact hv.c3
  ·exact hv.c4
 have HO:=Hd ho;clear hv;rcases ho.2 with ⟨hn,hn2⟩|⟨g,c',cur,hg,hg1,hg2,hg3,hg4,_⟩
 ·simp only [Value.slice.injEq] at hn;obtain ⟨rfl,_,rfl⟩:=hn;have hl0:=List.length_eq_zero_iff.1 hn2;subst hl0;clear ho hcap hn2;have HL:Hid (∃L:List Ar,L=[]):=⟨[],rfl⟩
  go_enter Tryz.func134,Tryz.ntmps134;go_wp2_with (at_builtin;refine wpList_append_own _ rfl _ _ 106 rfl B 139 i0 _ 5 40 Tryz.underlying106 hi hz0 hz1 hz2 rfl b14 _ _ _ rfl HO.out ⟨vb,0,none⟩ 1 1 [s,c,f,p,.bool b] rfl rfl ?c1 ?c2 ?c3 ?c4 hB ?_)
  case c1=>
   intro j u hj;rw [Addr.add_lit];exact HV5.out j u hj
  case c2=>
   intro u hu;simp at hu;rcases hu with rfl|rfl|rfl|rfl|rfl<;>rfl
  case c3=>unfold maxLen;omega
  case c4=>omega
  intro v' w' hown' hgrow _;have HP:Hid (InsPost B [] 0 ⟨s,c,f,p,b⟩ w (.returned v') w'):=insPost_of hown' hgrow HO.out hB;clear hown' hgrow;go_wp2_with fail;go_ret;exact HP.out
 ·cases hg;have hc1:l.length≤cap:=hg3;unfold maxLen at hg4;have hc2:(cap:Int)≤9223372036854775807:=b10;clear ho hg1 hg2 hg4;by_cases hcl:cap=l.length
  ·subst hcl;exact cl35
  ·have hcl2:l.length<cap:=b10;exact cl35
theorem run_copy_sz (P:Program) (w:World) (dT sT ty elem:TypeId) (sz g o dLen dCap:Nat) (a:Addr) (sLen sCap:Nat) (cur:Array Value) (t:TypeId) (cs:List Value)
 (hu:P.underlying dT=some (.slice elem)) (hs:(P.info? elem).map (·.size)=some sz)
 (hg:w.heap[g]? =some (.cells cur t (0,0))) (m:Nat) (hm:Nat.min sLen dLen=m) (hn:cs.length=m*sz)
 (hsrc:∀j v,cs[j]? =some v→w.cell? (a.add j)=some v) (hfit:o+cs.length≤cur.size) (h1:∀v∈cs,v.oneCell'=true):
 (Builtin.copy_ #[dT,sT] ty #[.slice (some (g o)) dLen dCap,.slice (some a) sLen sCap]).run P w=
  .ok (goInt m) (w.setRow g (cur.toList.take o++cs++cur.toList.drop (o+cs.length)).toArray):=by
 have hl:=run_loadCells_list (P:=P) w a cs hsrc;have hst:=run_storeCells_at P g o t cs 0 cur w hg (by simpa using hfit) h1;cases hq:P.info? elem with
 |none=>simp [hq] at hs
 |some i=>
  have hi:i.size=sz:=by simpa [hq] using hs
  simp [Builtin.copy_,run_underlying hu,Builtin.lenOf,Builtin.firstCells,sizeOf,typeInfo,hq,hi,hm,←hn,hl,hst]
theorem flat_take (l:List Ar) (i:Nat) (hi:i≤l.length):(flat l).take (i*5)=flat (l.take i):=by
 have h:flat l=flat (l.take i)++flat (l.drop i):=by rw [←flat_append,List.take_append_drop]
 have h2:(flat (l.take i)).length=i*5:=by rw [flat_len,List.length_take];congr 1;omega
 rw [h,←h2,List.take_left]
theorem flat_drop (l:List Ar) (i:Nat) (hi:i≤l.length):(flat l).drop (i*5)=flat (l.drop i):=by
 have h:flat l=flat (l.take i)++flat (l.drop i):=by rw [←flat_append,List.take_append_drop]
 have h2:(flat (l.take i)).length=i*5:=by rw [flat_len,List.length_take];congr 1;omega
 rw [h,←h2,List.drop_left]
theorem flat_insAt (l:List Ar) (i:Nat) (x:Ar):flat (insAt l i x)=flat (l.take i)++x.cells++flat (l.drop i):=by
 unfold insAt;rw [flat_append,show x::l.drop i=[x]++l.drop i from rfl,flat_append,flat_one,List.append_assoc]
def Shp (W:World) (vb:Nat):Prop:=W.shape? vb=some (139,5)∧∀o,W.frozen? (vb o)=false
theorem two_copies (A C D X:List Value) (i k:Nat) (hA:A.length=i*5) (hX:X.length=5) (hC:C.length=k*5) (R:List Value) (hR:A++D=R) (hD:k*5+5≤D.length):
 (R.take ((i+1)*5)++C++R.drop ((i+1)*5+C.length)).take (i*5)++X++(R.take ((i+1)*5)++C++R.drop ((i+1)*5+C.length)).drop (i*5+X.length)=A++X++C++D.drop (k*5+5):=by
 subst hR;have h1:(A++D).take ((i+1)*5)=A++D.take 5:=by
  rw [List.take_append,List.take_of_length_le b10];congr 2
  omega
 have h2:(A++D).drop ((i+1)*5+C.length)=D.drop (k*5+5):=by
  rw [List.drop_append,List.drop_of_length_le b10,List.nil_append];congr 1
  omega
 rw [h1,h2];have h3:(A++D.take 5++C++D.drop (k*5+5)).take (i*5)=A:=by
  rw [List.append_assoc,List.append_assoc,←hA,List.take_left]
 have h4:(A++D.take 5++C++D.drop (k*5+5)).drop (i*5+X.length)=C++D.drop (k*5+5):=by
  have h5:(A++D.take 5).length=i*5+X.length:=by rw [List.length_append,List.length_take];omega
  rw [List.append_assoc,←h5,List.drop_left]
 rw [h3,h4,List.append_assoc,List.append_assoc,List.append_assoc]
set_option maxHeartbeats 4000000 in
theorem insert_shift (B g cap i vb:Nat) (l:List Ar) (x:Ar) (w:World) (ho:w.ownsRow B 139 5 (.slice (some (g 0)) l.length cap) l.length (flat l)) (hl:l.length≤100) (hi:i<l.length) (hroom:l.length<cap) (hv:Blk w vb x) (hs:Shp w vb) (hne:vb≠g):
 Calls Tryz.prog 134 #[.slice (some (g 0)) l.length cap,i,.slice (some (vb 0)) 1 1] w (InsPost B l i x w):=by
 obtain ⟨i0,hinf,hz0,hz1,hz2⟩:=info_parts area_info;have hsz:(Tryz.prog.info? 139).map (·.size)=some 5:=by rw [hinf];simp [hz1]
 obtain ⟨_,⟨hno,_⟩|⟨g',cap',cur,hge,hBg,hgg,_,hcm,hcs,htk⟩⟩:=ho
 ·cases hno
 cases hge;unfold maxLen at hcm;have hfl:=flat_len l;have hcl:cur.toList=flat l++cur.toList.drop (l.length*5):=by rw [←htk,List.take_append_drop]
 have hcn:cur.toList.length=cap*5:=by simpa using hcs
 --the cells
 obtain ⟨cur1,hcur1⟩:∃cur1:Array Value,cur1=(cur.toList.take ((i+1)*5)++flat (l.drop i)++cur.toList.drop ((i+1)*5+(flat (l.drop i)).length)).toArray:=⟨_,rfl⟩
 obtain ⟨cur2,hcur2⟩:∃cur2:Array Value,cur2=(cur1.toList.take (i*5)++x.cells++cur1.toList.drop (i*5+x.cells.length)).toArray:=⟨_,rfl⟩
 have hdl:(flat (l.drop i)).length=(l.length-i)*5:=by rw [flat_len,List.length_drop]
 have hfin:cur2.toList=flat (l.take i)++x.cells++flat (l.drop i)++(cur.toList.drop (i*5)).drop ((l.length-i)*5+5):=by
  rw [hcur2,hcur1];show _++_++_=_;refine two_copies (flat (l.take i)) (flat (l.drop i)) (cur.toList.drop (i*5)) x.cells i (l.length-i) ?_ rfl hdl cur.toList ?_ ?_
  ·rw [flat_len,List.length_take];congr 1;omega
  ·rw [←flat_take l i b10,←htk,List.take_take,Nat.min_eq_left b10,List.take_append_drop]
  ·rw [List.length_drop,hcn];omega
 have hsz2:cur2.size=cap*5:=by
  have:=congrArg List.length hfin;simp only [List.length_append,List.length_drop,hcn,hdl,flat_len,List.length_take] at this;have hx:x.cells.length=5:=rfl;have h5:cur2.toList.length=cur2.size:=b11;omega
 have hsz1:cur1.size=cap*5:=by
  have h6:=congrArg Array.size hcur1;simp only [List.size_toArray,List.length_append,List.length_take,List.length_drop,hcn,hdl] at h6;omega
 have hcell:∀(W:World),W.heap[g]? =some (.cells cur 139 (0,0))→∀j v,(flat (l.drop i))[j]? =some v→W.cell? ((⟨g,i*5,none⟩:Addr).add j)=some v:=by
  intro W hW j v hj;rw [Addr.add_lit];simp only [World.cell?,hW];rw [←flat_drop l i b10,List.getElem?_drop] at hj;have hlt:=(List.getElem?_eq_some_iff.1 hj).1;rw [←Array.getElem?_toList,hcl,List.getElem?_append_left hlt];exact hj
 obtain ⟨W1,hW1⟩:∃W1:World,W1=w.drew.setRow g cur1:=⟨_,rfl⟩
 obtain ⟨W2,hW2⟩:∃W2:World,W2=W1.setRow g cur2:=⟨_,rfl⟩
 have hg1:W1.heap[g]? =some (.cells cur1 139 (0,0)):=by rw [hW1];exact setRow_heap _ g _ _ _ _ hgg
 have hg2:W2.heap[g]? =some (.cells cur2 139 (0,0)):=by rw [hW2];exact setRow_heap _ g _ _ _ _ hg1
 have hb1:Below B w W1:=by rw [hW1];exact below_setRow (Below.drew Br) hBg _
 have hb2:Below B w W2:=by rw [hW2];exact below_setRow hb1 hBg _
 have HP:Hid (InsPost B l i x w (.returned (.slice (some (g 0)) (l.length+1) cap)) W2):=by
  refine ⟨_,_,rfl,⟨?_,Or.inr ⟨g,cap,cur2,rfl,hBg,hg2,hroom,by unfold maxLen;omega,hsz2,?_⟩⟩,hb2⟩
  ·rw [flat_len];simp [insAt];omega
  ·rw [flat_insAt,hfin,List.take_left' ?_];simp only [List.length_append,hdl,flat_len,List.length_take];have hx:x.cells.length=5:=rfl;omega
 have hvc:∀j v,x.cells[j]? =some v→W1.cell? ((⟨vb,0,none⟩:Addr).add j)=some v:=by
  intro j v hj;have hj5:j<5:=(List.getElem?_eq_some_iff.1 hj).1;have hco:∀o,W1.cell? (vb o)=w.cell? (vb o):=fun o=>by
   rw [hW1];exact World.cell?_of_block (w:=w) (a:=⟨vb,o,none⟩) (setRow_other _ g vb _ hne)
  rw [Addr.add_lit,Nat.zero_add,hco];exact cl74
 have hx1:∀v∈x.cells,v.oneCell'=true:=by
  intro u hu;simp [Ar.cells] at hu;rcases hu with rfl|rfl|rfl|rfl|rfl<;>rfl
 have hf1:∀v∈flat (l.drop i),v.oneCell'=true:=by
  exact cl64
 have hcp1:∀ty dc sc,(Builtin.copy_ #[106,106] ty #[.slice (some (g ((i+1)*5))) (l.length-i) dc,.slice (some (g (i*5))) (l.length+1-i) sc]).run Tryz.prog w.drew=.ok (goInt ((l.length-i:Nat):Int)) W1:=fun ty dc sc=>by
  rw [hW1,hcur1];exact run_copy_sz Tryz.prog w.drew 106 106 ty 139 5 g ((i+1)*5) _ dc ⟨g,i*5,none⟩ _ sc cur 139 (flat (l.drop i)) Tryz.underlying106 hsz hgg (l.length-i) b92 hdl (hcell w.drew hgg) (by rw [hdl,hcs];omega) hf1
 have hcp2:∀ty dc,(Builtin.copy_ #[106,106] ty #[.slice (some (g (i*5))) (l.length+1-i) dc,.slice (some (vb 0)) 1 1]).run Tryz.prog W1=.ok (goInt 1) W2:=fun ty dc=>by
  rw [hW2,hcur2];exact run_copy_sz Tryz.prog W1 106 106 ty 139 5 g (i*5) _ dc ⟨vb,0,none⟩ 1 1 cur1 139 x.cells Tryz.underlying106 hsz hg1 1 b92 rfl hvc (by rw [hsz1];show i*5+5≤_;omega) hx1
 have hov:∀lb cb,(callFunc 142 #[.slice (some (vb 0)) 1 1,.slice (some (g ((i+1)*5))) lb cb]).run Tryz.prog w=.ok (.value (.bool false)) w:=fun lb cb=>by
  rw [run_callFunc_extern (P:=Tryz.prog) Tryz.func142 b12 b12 b12 (e:=Extern.SlicesOverlaps.overlaps #[106,106] #[4]) b12,
   Lib.run_overlaps_apart w 106 4 139 Tryz.underlying106 5 Tryz.sizeOf139 ⟨vb,0,none⟩ ⟨g,(i+1)*5,none⟩ 1 1 lb cb hne 139 139 5 cur.size hs.1 (by simp [World.shape?,hgg]) b10 (hs.2 0) (hs.2 5)]
  rfl
 have hz2:¬((i:Int)=(l.length:Int)):=b10;have hw1:IntKind.i64.wrap ((i:Int)+1)=(i:Int)+1:=IntWalk.i64_in _ b10;have hc9:(cap:Int)≤9223372036854775807:=b10;have hil:(i:Int)<(l.length:Int):=b10;have hcl:(l.length:Int)<(cap:Int):=b10;have HC1:=Hd hcp1;have HC2:=Hd hcp2;clear hcp1 hcp2 hcell hvc hx1 hf1 hW1 hW2 hcur1 hcur2 hfin hsz1 hsz2 hg1 hg2 hb1 hb2 hdl hcn htk hgg hv hs hcs hfl;generalize l.length=n at *;have hb3:(i:Int)≤(n:Int)+1:=b10;have hcap2:(i:Int)+1≤(n:Int)+1:=b10;have mixed:Tryz.prog.follows Departure.mixedOrders=true:=by kernel_rfl
 have hb1:(0:Int)≤(i:Int)+1:=b10;have htn:((i:Int)+1).toNat=i+1:=b10;have hb2:¬(cap=i+1):=b10;have hb4:¬(cap=i):=b10;have hb5:i≤n:=b10;go_enter Tryz.func134,Tryz.ntmps134;go_wp2_with (simp only [hov])
 go_region_law_o (refine step_copy_runI rfl _ _ 106 106 rfl (.slice (some (g ((i+1)*5))) (n-i) (cap-(i+1))) (.slice (some (g (i*5))) (n+1-i) (cap-i)) b30 b30 (HC1.out 3 (cap-(i+1)) (cap-i)) ?_);have hcp2:=HC2.out;go_wp2_with fail;go_ret;exact HP.out
end Go.Proofs.YtimhaidiclbnhaaGreat.Ara
