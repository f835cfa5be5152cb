import Derived.Test.YtimhaidiclbnhaaGreatP27
import Derived.Test.YtimhaidiclbnhaaGreatP28
import Derived.Test.YtimhaidiclbnhaaGreatP29
set_option linter.unusedSimpArgs false
set_option linter.unusedVariables false
set_option maxRecDepth 100000
open Go.ChangeShapes Go.WideShapes Go.ChangeAt Go.RowKit
namespace Go.Proofs.YtimhaidiclbnhaaGreat.Ver
open Des (Dv De Dn DIn DBlk DAns Vi At RowOf ints DSz)
open Ara (Ar ARow)
open Con (StrRow)
def stAt (s:St) (k:Nat):List (List Int):=(List.range s.st.length).map fun i=>if i<k then s.st.getD i []++[((s.h.getD i ([],0)).1.length:Int)] else s.st.getD i []
def stK (s:St) (k:Nat):St:={s with st:=stAt s k}
def stS (s:St):St:=stK s s.st.length
theorem stAt_len (s:St) (k:Nat):(stAt s k).length=s.st.length:=by simp [stAt]
theorem stAt_get (s:St) (k i:Nat) (hi:i<s.st.length):(stAt s k).getD i []=if i<k then s.st.getD i []++[((s.h.getD i ([],0)).1.length:Int)] else s.st.getD i []:=by
 simp [stAt,List.getD,hi]
theorem ext_getD {α:Type} (d:α) {a b:List α} (hl:a.length=b.length) (h:∀i,i<a.length→a.getD i d=b.getD i d):a=b:=by
 apply List.ext_getElem hl;intro i h1 h2;have:=h i h1;simpa [List.getD,h1,h2] using this
theorem stK_zero (s:St):stK s 0=s:=by
 have e:stAt s 0=s.st:=ext_getD [] (stAt_len s 0) fun i hi=>by
  rw [stAt_len] at hi;rw [stAt_get s 0 i hi,if_neg b10]
 unfold stK;rw [e]
theorem stK_succ (s:St) (k:Nat) (hk:k<s.st.length):{stK s k with st:=(stK s k).st.set k ((stK s k).st.getD k []++[((s.h.getD k ([],0)).1.length:Int)])}=stK s (k+1):=by
 have e:(stAt s k).set k ((stAt s k).getD k []++[((s.h.getD k ([],0)).1.length:Int)])=stAt s (k+1):=ext_getD [] (by simp [stAt_len]) fun i hi=>by
  rw [List.length_set,stAt_len] at hi;rw [getD_set _ _ _ _ _ (by rw [stAt_len];exact hk),stAt_get s (k+1) i hi,stAt_get s k k hk,if_neg (by omega:¬k<k)];by_cases h:i=k
  ·subst h;rw [if_pos rfl,if_pos b10]
  ·rw [if_neg h,stAt_get s k i hi];by_cases h2:i<k
   ·rw [if_pos h2,if_pos b10]
   ·rw [if_neg h2,if_neg b10]
 unfold stK;simp only;rw [e]
structure Ok (K:Nat) (s:St):Prop where
 rt:Des.Rt s.d
 nf:s.fs.length≤1000
 fa:s.fa.length=s.fs.length
 la:s.la.length=s.fs.length
 h:s.h.length=s.fs.length
 st:s.st.length=s.fs.length
 hl:∀i,i<s.h.length→(s.h.getD i ([],0)).1.length≤K+1
 sl:∀i,i<s.st.length→(s.st.getD i []).length≤K
 sv:∀i,i<s.st.length→∀z,z∈s.st.getD i []→0≤z∧z≤K
 sz:∀y,y∈s.fs→y.size≤1000
 ns:s.scr.length≤1000
 ar:s.ar.length=s.scr.length
 al:∀p,(s.ar.getD p []).length≤100
 af:∀p a,a∈s.ar.getD p []→∃f:Nat,a.fi=(f:Int)∧f<s.fs.length
 bg:s.bg.length=s.scr.length
 fin:s.fin.length=s.scr.length
 fb:∀p,0≤s.fin.getD p 0∧s.fin.getD p 0≤K
 fab:∀f,0≤s.fa.getD f 0∧s.fa.getD f 0≤1000000
 ops:∀p i,p<s.scr.length→i<(s.scr.getD p []).length→1≤((s.scr.getD p []).getD i Opr.zero).kd∧((s.scr.getD p []).getD i Opr.zero).kd≤14∧((s.scr.getD p []).getD i Opr.zero).off≤1000000∧((s.scr.getD p []).getD i Opr.zero).dat.size≤1000
def planR (s:St) (p:Nat) (o:Opr) (x:Ev):Res×St:=
 match o.kd.toNat with
 |1=>openedR s p o
 |2=>closedR s p o
 |3=>readR s p o
 |4=>writeR s p o
 |5=>seekR s p o
 |6=>truncateR s p o
 |7=>punchR s p o
 |8=>syncR s p o x
 |9=>mappedR s p o
 |10=>unmapR s p o
 |11=>loadR s p o
 |12=>storeR s p o
 |13=>dupR s p o
 | _=>(⟨0,0,⟨#[]⟩⟩,s)
theorem af_find {s:St} {p:Nat} {o:Opr} (h:∀a,a∈s.ar.getD p []→∃f:Nat,a.fi=(f:Int)∧f<s.fs.length) (hb:adB s p o=true):∃f:Nat,(adA s p o).fi=(f:Int)∧f<s.fs.length:=by
 unfold adB at hb;unfold adA;by_cases hz:o.off<0
 ·rw [if_pos hz] at hb;cases hb
 ·rw [if_neg hz] at hb ⊢;generalize hq:Ara.findV (s.ar.getD p []) ((o.off.toNat/16:Nat):Int)=q at *;cases q with
  |none=>cases hb
  |some a=>
   refine h a ?_;unfold Ara.findV at hq;split at hq
   ·exact List.mem_of_find?_eq_some hq
   ·cases hq
theorem plan_any (K B:Nat) (l:Ly) (s:St) (p:Nat) (o:Opr) (x:Ev) (W:World) (h:Mm B W l s) (ok:Ok K s) (hK:K≤9000) (hp:p<s.scr.length) (n:Nat) (hn:n<14) (hk:o.kd=(n:Int)+1) (hoff:o.off≤1000000) (hdat:o.dat.size≤1000):
 Calls Tryz.prog (65+n) #[stepV l.M (p:Int) o x] W (PlanP B W l s (planR s p o x).1 (planR s p o x).2):=by
 have hpa:p<s.ar.length:=by rw [ok.ar];exact hp
 have hl:∀i,i<s.h.length→(s.h.getD i ([],0)).1.length≤10000:=fun i hi=>by have:=ok.hl i hi;omega
 have hsl:∀i,i<s.st.length→(s.st.getD i []).length≤10000:=fun i hi=>by have:=ok.sl i hi;omega
 have hsv:∀i,i<s.st.length→∀z,z∈s.st.getD i []→0≤z∧z≤1000000:=fun i hi z hz=>by have:=ok.sv i hi z hz;omega
 have hkn:o.kd.toNat=n+1:=b10;have haf:=af_find (o:=o) (ok.af p);unfold planR;rw [hkn];rcases n with _ | _ | _ | _ | _ | _ | _ | _ | _ | _ | _ | _ | _ | _ |n
 ·exact opened_any B l s p o x W h ok.rt ok.nf ok.fa
 ·exact closed_any B l s p o x W h ok.rt
 ·exact read_any B l s p o x W h ok.rt ok.nf ok.sz
 ·exact write_any B l s p o x W h ok.rt ok.nf ok.sz ok.h hl hdat
 ·exact seek_any B l s p o x W h ok.rt ok.nf
 ·exact truncate_any B l s p o x W h ok.rt ok.nf ok.sz ok.h hl
 ·exact punch_any B l s p o x W h ok.rt ok.nf ok.sz ok.h hl
 ·exact sync_any B l s p o x W h ok.rt ok.nf ok.fa ok.la ok.h ok.st hl hsl hsv
 ·exact mapped_any B l s p o x W h ok.rt ok.nf hpa hp ok.ns (ok.al p)
 ·exact unmap_any B l s p o x W h hpa hp ok.ns (ok.al p)
 ·exact load_any B l s p o x W h hpa hp ok.nf ok.ns (ok.al p) hoff ok.sz haf
 ·exact store_any B l s p o x W h hpa hp ok.nf ok.ns (ok.al p) hoff ok.sz haf ok.h hl hdat
 ·exact dup_any B l s p o x W h ok.rt
 ·exact wait_any B l s p o x W
 ·omega
def evRes (x:Ev):Res:=⟨x.er,x.n,x.dat⟩
def failS (s:St) (x:Ev):St:={s with fa:=s.fa.set x.fi.toNat (min (s.fa.getD x.fi.toNat 0+1) 1000000),la:=s.la.set x.fi.toNat x.er}
def opAt (s:St) (p i:Nat):Opr:=(s.scr.getD p []).getD i Opr.zero
def takeS (s:St) (i:Int) (x:Ev):Int×St:=
 if x.pr=-1 then (if ordB (stS s) i x=true then 0 else 4,failS (ordS (stS s) x) x)
 else (if ordB (stS s) i x=true then judgeV (opAt s x.pr.toNat x.ix.toNat).kd (planR (ordS (stS s) x) x.pr.toNat (opAt s x.pr.toNat x.ix.toNat) x).1 (evRes x) else 4,
  if (opAt s x.pr.toNat x.ix.toNat).kd=8∨x.er=0 then (planR (ordS (stS s) x) x.pr.toNat (opAt s x.pr.toNat x.ix.toNat) x).2 else ordS (stS s) x)
theorem getD_set0 {α:Type} (d:α) (l:List α) (i j:Nat) (a:α):(l.set i a).getD j d=if j=i∧i<l.length then a else l.getD j d:=by
 by_cases h:i<l.length
 ·rw [getD_set l i j a d h];by_cases e:j=i
  ·simp [e,h]
  ·simp [e]
 ·rw [List.set_eq_of_length_le b10,if_neg (fun hh=>h hh.2)]
theorem ok_ord {K:Nat} {s:St} (x:Ev) (h:Ok K s):Ok (K+1) (ordS (stS s) x):=by
 have hst:Ok (K+1) (stS s):=by
  refine ⟨h.rt,h.nf,h.fa,h.la,h.h,?_,fun i hi=>Nat.le_trans (h.hl i hi) b10,fun i hi=>?_,fun i hi z hz=>?_,h.sz,h.ns,h.ar,h.al,h.af,h.bg,h.fin,fun p=>⟨(h.fb p).1,Int.le_trans (h.fb p).2 b10⟩,h.fab,h.ops⟩
  ·show (stAt s s.st.length).length=_;rw [stAt_len];exact h.st
  ·have hi:i<s.st.length:=by have:i<(stAt s s.st.length).length:=hi;rwa [stAt_len] at this
   show ((stAt s s.st.length).getD i []).length≤K+1;rw [stAt_get s _ i hi,if_pos hi,List.length_append];have:=h.sl i hi;rw [List.length_singleton];omega
  ·have hi:i<s.st.length:=by have:i<(stAt s s.st.length).length:=hi;rwa [stAt_len] at this
   have hz:z∈(stAt s s.st.length).getD i []:=hz;rw [stAt_get s _ i hi,if_pos hi,List.mem_append] at hz;rcases hz with hz|hz
   ·have:=h.sv i hi z hz;omega
   ·simp at hz;have:=h.hl i (by have:=h.h;have:=h.st;omega);simp only [List.getD_eq_getElem?_getD] at this;omega
 have hfb:∀p,0≤(stS s).fin.getD p 0∧(stS s).fin.getD p 0≤K:=h.fb;generalize stS s=t at *;unfold ordS;split
 ·exact {hst with}
 ·refine {hst with bg:=?_,fin:=?_,fb:=?_}
  ·show (t.bg.set _ _).length=_;rw [List.length_set];exact hst.bg
  ·show (t.fin.set _ _).length=_;rw [List.length_set];exact hst.fin
  ·intro j;show 0≤(t.fin.set x.pr.toNat (t.fin.getD x.pr.toNat 0+1)).getD j 0∧(t.fin.set x.pr.toNat (t.fin.getD x.pr.toNat 0+1)).getD j 0≤((K+1:Nat):Int);rw [getD_set0];have h1:=hfb x.pr.toNat;have h2:=hfb j;split<;>omega
structure Tk (B:Nat) (W0 W:World) (l0 l:Ly) (s:St):Prop where
 m:Mm B W l s
 v:Vk (vs l0) W0 W
 n:∀b,b∈vs l→b∈vs l0∨W0.heap.size≤b
 M:l.M=l0.M
 ex:l.ex=l0.ex
theorem Tk.refl {B:Nat} {W:World} {l:Ly} {s:St} (h:Mm B W l s):Tk B W W l l s:=⟨h,Vk.refl _ _,fun _ h=>Or.inl h,rfl,rfl⟩
theorem Tk.step {B:Nat} {W0 W W':World} {l0 l l':Ly} {s s':St} (h:Tk B W0 W l0 l s) (m:Mm B W' l' s') (v:Vk (vs l) W W') (n:∀b,b∈vs l'→b∈vs l∨W.heap.size≤b) (hM:l'.M=l.M) (hE:l'.ex=l.ex):Tk B W0 W' l0 l' s':=by
 refine ⟨m,⟨v.os.trans h.v.os,v.tape.trans h.v.tape,v.output.trans h.v.output,Nat.le_trans h.v.size v.size,fun k hk hl=>(v.block k (fun hm=>?_) (Nat.lt_of_lt_of_le hl h.v.size)).trans (h.v.block k hk hl)⟩,fun b hb=>?_,hM.trans h.M,hE.trans h.ex⟩
 ·rcases h.n k hm with h1|h1
  ·exact hk h1
  ·omega
 ·rcases n b hb with h1|h1
  ·exact h.n b h1
  ·exact Or.inr (Nat.le_trans h.v.size h1)
theorem Tk.same {B:Nat} {W0 W W':World} {l0 l:Ly} {s s':St} (h:Tk B W0 W l0 l s) (m:Mm B W' l s') (v:Vk (vs l) W W'):Tk B W0 W' l0 l s':=h.step m v (fun _ h=>Or.inl h) rfl rfl
theorem Tk.below {B:Nat} {W0 W W':World} {l0 l:Ly} {s:St} (h:Tk B W0 W l0 l s) (hb:Below W W W'):Tk B W0 W' l0 l s:=h.same (h.m.below hb) (Vk.ofBelow hb)
theorem Tk.at {W W':World} {l:Ly} {b:Nat} {cs:List Value} (h:At W b cs) (v:Vk (vs l) W W') (hb:b∉vs l):At W' b cs:=At.keepB h v.size (v.block b hb h.hi)
def Bl (w:World) (b:Nat) (cs:List Value) (t:TypeId):Prop:=w.heap[b]? =some (.cells cs.toArray t)
theorem Bl.hi {w:World} {b:Nat} {cs:List Value} {t:TypeId} (h:Bl w b cs t):b<w.heap.size:=by
 rcases Nat.lt_or_ge b w.heap.size with h1|h1
 ·exact h1
 ·unfold Bl at h;rw [Array.getElem?_eq_none h1] at h;cases h
theorem Bl.at {w:World} {b:Nat} {cs:List Value} {t:TypeId} (h:Bl w b cs t):At w b cs:=by
 have e:∀k,w.cell? (b k)=cs[k]?:=fun k=>by
  have h1:w.heap[b]? =some (.cells cs.toArray t (0,0)):=h;rw [cell_of_row w b k cs.toArray t (0,0) h1];simp
 have hf:∀k,w.frozen? (b k)=false:=fun k=>by
  have h1:w.heap[b]? =some (.cells cs.toArray t (0,0)):=h;simp [World.frozen?,h1]
 refine ⟨fun j v hv=>by rw [Nat.zero_add,e];exact hv,fun j hj=>⟨?_,hf _⟩,h.hi⟩;rw [Nat.zero_add,e,List.getElem?_eq_getElem hj];rfl
theorem Bl.below {w w':World} {b B:Nat} {cs:List Value} {t:TypeId} (h:Bl w b cs t) (hb:Below B w w') (hB:b<B):Bl w' b cs t:=(hb.block b hB).trans h
theorem Bl.new (w:World) (cs:List Value) (t:TypeId):Bl (w.alloc (.cells cs.toArray t)) w.heap.size cs t:=Go.heap_alloc_new w _
structure Mks (W1:World) (pos:List Nat) (zs:List (List Value×TypeId)) (β:Nat→Nat) (l:Array Bool) (w:World):Prop where
 bel:Below W1 W1 w
 al:∀j,j<pos.length→l.getD (pos.getD j 0) false=true→W1.heap.size≤β j∧Bl w (β j) (zs.getD j ([],0)).1 (zs.getD j ([],0)).2
 ne:∀i j,i<pos.length→j<pos.length→i≠j→l.getD (pos.getD i 0) false=true→l.getD (pos.getD j 0) false=true→β i≠β j
def upd (β:Nat→Nat) (j v:Nat):Nat→Nat:=fun k=>if k=j then v else β k
section
variable {W1:World} {pos:List Nat} {zs:List (List Value×TypeId)} {β:Nat→Nat} {l:Array Bool} {w:World}
theorem Mks.pure (h:Mks W1 pos zs β l w) {i:Nat} (hi:∀j,j<pos.length→pos.getD j 0≠i):Mks W1 pos zs β (l.setIfInBounds i true) w:=
 ⟨h.bel,fun j hj hl=>h.al j hj (by rwa [getD_set_ne false (fun e=>hi j hj e.symm)] at hl),
  fun a b ha hb hab h1 h2=>h.ne a b ha hb hab (by rwa [getD_set_ne false (fun e=>hi a ha e.symm)] at h1) (by rwa [getD_set_ne false (fun e=>hi b hb e.symm)] at h2)⟩
theorem Mks.make (h:Mks W1 pos zs β l w) {j:Nat} (hj:j<pos.length) (hp:∀k,k<pos.length→k≠j→pos.getD k 0≠pos.getD j 0):Mks W1 pos zs (upd β j w.heap.size) (l.setIfInBounds (pos.getD j 0) true) (w.alloc (.cells (zs.getD j ([],0)).1.toArray (zs.getD j ([],0)).2)):=by
 have hb:Below w w (w.alloc (.cells (zs.getD j ([],0)).1.toArray (zs.getD j ([],0)).2)):=Br.alloc Nr _;have old:∀k,k<pos.length→k≠j→(l.setIfInBounds (pos.getD j 0) true).getD (pos.getD k 0) false=true→l.getD (pos.getD k 0) false=true:=fun k hk hkj hl=>by
  rwa [getD_set_ne false (fun e=>hp k hk hkj e.symm)] at hl
 refine ⟨h.bel.trans (hb.mono h.bel.size),fun k hk hl=>?_,fun a b ha hbb hab h1 h2=>?_⟩
 ·by_cases hkj:k=j
  ·subst hkj;unfold upd;rw [if_pos rfl];exact ⟨h.bel.size,Bl.new w _ _⟩
  ·unfold upd;rw [if_neg hkj];have h3:=h.al k hk (old k hk hkj hl);exact ⟨h3.1,h3.2.below hb h3.2.hi⟩
 ·unfold upd;by_cases haj:a=j
  ·subst haj;rw [if_pos rfl,if_neg (fun e=>hab e.symm)];have h3:=(h.al b hbb (old b hbb (fun e=>hab e.symm) h2)).2.hi;omega
  ·rw [if_neg haj];by_cases hbj:b=j
   ·subst hbj;rw [if_pos rfl];have h3:=(h.al a ha (old a ha haj h1)).2.hi;omega
   ·rw [if_neg hbj];exact h.ne a b ha hbb hab (old a ha haj h1) (old b hbb hbj h2)
end
theorem made_one (z:Value) (n:Nat):madeCells #[z] n=(List.replicate n z).toArray:=by
 rw [←toList_madeCells_one z n]
theorem made_two (a b:Value) (n:Nat):madeCells #[a,b] (n*2)=((List.range n).flatMap fun _=>[a,b]).toArray:=by
 apply Array.ext';apply List.ext_getElem?;intro k;have hl:((List.range n).flatMap fun _=>[a,b]).length=n*2:=by
  rw [List.length_flatMap];clear k
  induction n with
  |zero=>rfl
  |succ n ih=>rw [List.range_succ,List.map_append,List.sum_append,ih];simp;omega
 rcases Nat.lt_or_ge k (n*2) with h|h
 ·have h1:=flat2_at (fun _=>[a,b]) (fun _=>rfl) n (k/2) (k%2) b10 b10;rw [show k/2*2+k%2=k from by omega] at h1;show _=((List.range n).flatMap fun _=>[a,b])[k]?;rw [h1];simp only [madeCells,Array.getElem?_toList,Array.getElem?_map,Array.getElem?_range];rw [if_pos h];rcases Nat.mod_two_eq_zero_or_one k with h2|h2<;>simp [h2]
 ·show _=((List.range n).flatMap fun _=>[a,b])[k]?;rw [List.getElem?_eq_none (by simp [madeCells];omega),List.getElem?_eq_none (by rw [hl];exact h)]
theorem wp_make {o:Oper} {a:Act} {K:Act→World→Prop} {Q:Exit→Act→World→Prop} (w:World) (t e:TypeId) (x y:Operand) (n:Nat) (zs:List Value)
 (ho:o.op=.makeSlice t x y) (hx:a.eval x=.int .i64 (n:Int)) (hy:a.eval y=.int .i64 (n:Int))
 (hrun:(Instr.makeSlice t (.int .i64 (n:Int)) (.int .i64 (n:Int))).run Tryz.prog w=.ok (.slice (some (w 0 0)) n n) (w.alloc (.cells zs.toArray e)))
 (hk:K (a.put o.dst (.slice (some (w 0 0)) n n)) (w.alloc (.cells zs.toArray e))):o.wp Tryz.prog a w K Q:=by
 unfold Oper.wp execOp;simp only [ho,Sem.run_bind,Sem.run_pure,Result.andThen_ok,hx,hy,hrun];exact hk
theorem run_make1 (w:World) (t e:TypeId) (z:Value) (b:Nat) (n:Nat) (ht:Tryz.prog.underlying t=some (.slice e)) (hi:(Tryz.prog.info? e).map (fun i=>(i.zero,i.size,i.bytes))=some (some z,1,b)) (hz:z.cells=#[z]) (hn:n≤1000) (hb:b≤1000):
 (Instr.makeSlice t (.int .i64 (n:Int)) (.int .i64 (n:Int))).run Tryz.prog w=.ok (.slice (some (w 0 0)) n n) (w.alloc (.cells (List.replicate n z).toArray e)):=by
 have hm:b*n≤1000*1000:=Nat.mul_le_mul hb hn;have:=run_make_row' (P:=Tryz.prog) t e z b ht hi hz .i64 .i64 n b10 b10 w;rw [made_one] at this;exact this
theorem hist_info:(Tryz.prog.info? 57).map (fun i=>(i.zero,i.size,i.bytes))=some (some (.agg #[σ,I]),2,32):=by kernel_rfl
theorem run_make2 (w:World) (n:Nat) (hn:n≤1000):
 (Instr.makeSlice 50 (.int .i64 (n:Int)) (.int .i64 (n:Int))).run Tryz.prog w=.ok (.slice (some (w 0 0)) n n) (w.alloc (.cells ((List.range n).flatMap fun _=>[.slice none 0 0,.int .i64 0]).toArray 57)):=by
 obtain ⟨i,hi,hz,hs,hb⟩:=info_parts hist_info;have:=run_make (P:=Tryz.prog) w 50 57 i _ Tryz.underlying50 hi hz .i64 .i64 n n b10 (Int.le_refl _) (by rw [hb];omega) b10;simp only [Int.toNat_natCast,hs] at this;rw [show (Value.agg #[σ,I]).cells=#[.slice none 0 0,.int .i64 0] from rfl,made_two] at this;exact this
theorem put_self {F:Act} {d:Nat} {v:Value} (h:F.tmps[d]? =some v):F.put (some d) v=F:=by
 obtain ⟨t,ds⟩:=F;simp only [Act.put,Act.mk.injEq,and_true];refine Array.ext_getElem? (fun i=>?_);rw [Array.getElem?_setIfInBounds];by_cases hi:d=i
 ·subst hi;have hlt:=(Array.getElem?_eq_some_iff.1 h).1;rw [if_pos rfl,if_pos hlt];exact h.symm
 ·rw [if_neg hi]
theorem kput {F:Act} {d:Nat} {v:Value} {K:Act→World→Prop} {w:World} (h:F.tmps[d]? =some v) (hk:K F w):K (F.put (some d) v) w:=by rw [put_self h];exact hk
theorem stepi_of {P:Program} {ops:Array Oper} {ι:Type} {F:ι→Act} {T:ι→Array Bool→World→Prop} {i:Nat} {o:Oper} (hg:o.guard=none)
 (h:∀ν l w,Closed ops l→T ν l w→l.getD i true=false→(∀e∈o.after,Region.binds .any e=true→l.getD e.on false=true)→∀K:Act→World→Prop,(∀ν' w',T ν' (l.setIfInBounds i true) w'→K (F ν') w')→o.wp P (F ν) w K (fun _ _ _=>False)):StepOki P ops F T i o:=
 ⟨hg,fun ν l w h1 h2 h3 h4=>h ν l w h1 h2 h3 h4 _ fun ν' w' h5=>⟨ν',rfl,h5⟩⟩
def updv (ν:Nat→Value) (j:Nat) (v:Value):Nat→Value:=fun k=>if k=j then v else ν k
def posL:List Nat:=[2,4,6,8,10,14,18,22]
def lenL (n ns j:Nat):Nat:=[n,n,n,n,n,ns,ns,ns].getD j 0
def zsL (n ns:Nat):List (List Value×TypeId):=[(List.replicate n (.string ⟨#[]⟩),9),(List.replicate n (.int .i64 0),3),(List.replicate n (.int .i64 0),51),((List.range n).flatMap fun _=>[.slice none 0 0,.int .i64 0],57),(List.replicate n (.slice none 0 0),22),(List.replicate ns (.slice none 0 0),106),(List.replicate ns (.int .i64 0),3),(List.replicate ns (.int .i64 0),3)]
def cfgC (pl sc:Value):List Value:=[σ,σ,I,I,I,I,I,I,I,I,σ,σ,I,I,pl,σ,σ,I,I,sc,σ]
def mzC (pl sc:Value) (n ns:Nat) (β:Nat→Nat):List Value:=cfgC pl sc++[fx (β 0) n,fx (β 1) n,fx (β 2) n,.slice none 0 0,.slice none 0 0,fx (β 5) ns,fx (β 3) n,fx (β 4) n,fx (β 6) ns,fx (β 7) ns,.int .i64 0]
structure BgS (W1:World) (pl sc:Value) (n ns:Nat) (ν:Nat→Value) (β:Nat→Nat) (l:Array Bool) (w:World):Prop where
 mks:Mks W1 posL (zsL n ns) β l w
 v:∀j,j<8→l.getD (posL.getD j 0) false=true→ν j=.slice (some ((β j) 0)) (lenL n ns j) (lenL n ns j)
 bd:l.getD 23 false=true→(∀j,j<8→l.getD (posL.getD j 0) false=true)∧ν 8=.agg (mzC pl sc n ns β).toArray
 bx:l.getD 24 false=true→l.getD 23 false=true∧ν 9=.pointer (some ((β 8) 0))∧W1.heap.size≤β 8∧Bl w (β 8) (mzC pl sc n ns β) 86∧∀j,j<8→β j≠β 8
 la:l.getD 25 false=true→l.getD 24 false=true∧ν 10=ν 9
def BgT (W1:World) (pl sc:Value) (n ns:Nat) (ν:Nat→Value) (l:Array Bool) (w:World):Prop:=∃β,BgS W1 pl sc n ns ν β l w
theorem getD_rep (k i:Nat):(Array.replicate k false).getD i false=false:=by
 simp [Array.getD]
theorem ff {b:Bool} {a:Array Bool} {i:Nat} (h:a.getD i true=false) (h2:a.getD i false=true):False:=by
 rcases Nat.lt_or_ge i a.size with h3|h3
 ·simp [h3] at h h2;rw [h] at h2;cases h2
 ·simp [Array.getElem?_eq_none h3] at h
section
variable {W1 w:World} {pl sc:Value} {n ns:Nat} {ν:Nat→Value} {l:Array Bool}
theorem pos_le (j:Nat) (hj:j<8):posL.getD j 0≤22:=by
 rcases j with _ | _ | _ | _ | _ | _ | _ | _ |j<;>first|omega|decide
theorem pos_ne (k j:Nat) (hk:k<8) (hj:j<8) (h:k≠j):posL.getD k 0≠posL.getD j 0:=by
 have:∀k:Fin 8,∀j:Fin 8,k≠j→posL.getD k.1 0≠posL.getD j.1 0:=by decide
 exact this ⟨k,hk⟩ ⟨j,hj⟩ (fun e=>h (congrArg Fin.val e))
theorem BgT.start:BgT W1 pl sc n ns ν (Array.replicate 26 false) W1.drew:=by
 refine ⟨fun _=>0,⟨Br.drew,fun j _ h=>?_,fun i j _ _ _ h=>?_⟩,fun j _ h=>?_,fun h=>?_,fun h=>?_,fun h=>?_⟩
 all_goals rw [getD_rep] at h;cases h
theorem BgT.bel (h:BgT W1 pl sc n ns ν l w):Below W1 W1 w:=by obtain ⟨β,h⟩:=h;exact h.mks.bel
theorem BgT.pure (h:BgT W1 pl sc n ns ν l w) (i:Nat) (hi:∀j,j<8→posL.getD j 0≠i) (h23:i≠23) (h24:i≠24) (h25:i≠25):BgT W1 pl sc n ns ν (l.setIfInBounds i true) w:=by
 obtain ⟨β,h⟩:=h;refine ⟨β,h.mks.pure hi,fun j hj hl=>h.v j hj (by rwa [getD_set_ne false (fun e=>hi j hj e.symm)] at hl),fun hl=>?_,fun hl=>?_,fun hl=>?_⟩
 ·rw [getD_set_ne false h23] at hl;exact ⟨fun j hj=>by rw [getD_set_ne false (fun e=>hi j hj e.symm)];exact (h.bd hl).1 j hj,(h.bd hl).2⟩
 ·rw [getD_set_ne false h24] at hl;rw [getD_set_ne false h23];exact h.bx hl
 ·rw [getD_set_ne false h25] at hl;rw [getD_set_ne false h24];exact h.la hl
theorem BgT.make {j:Nat} (h:BgT W1 pl sc n ns ν l w) (hj:j<8) (hun:l.getD (posL.getD j 0) true=false) {m:Nat} (hm:lenL n ns j=m):BgT W1 pl sc n ns (updv ν j (.slice (some (w 0 0)) m m)) (l.setIfInBounds (posL.getD j 0) true) (w.alloc (.cells ((zsL n ns).getD j ([],0)).1.toArray ((zsL n ns).getD j ([],0)).2)):=by
 obtain ⟨β,h⟩:=h;have h23:¬l.getD 23 false=true:=fun hl=>ff (b:=true) hun ((h.bd hl).1 j hj);have hp:=pos_le j hj;refine ⟨upd β j w.heap.size,h.mks.make hj fun k hk hkj=>pos_ne k j hk hj hkj,fun k hk hl=>?_,fun hl=>?_,fun hl=>?_,fun hl=>?_⟩
 ·by_cases e:k=j
  ·subst e;simp only [updv,upd,if_true,hm]
  ·rw [getD_set_ne false (fun e2=>pos_ne k j hk hj e e2.symm)] at hl;simp only [updv,upd,if_neg e];exact h.v k hk hl
 ·rw [getD_set_ne false b10] at hl;exact absurd hl h23
 ·rw [getD_set_ne false b10] at hl;exact absurd (h.bx hl).1 h23
 ·rw [getD_set_ne false b10] at hl;exact absurd (h.bx (h.la hl).1).1 h23
theorem BgT.build (h:BgT W1 pl sc n ns ν l w) (hall:∀j,j<8→l.getD (posL.getD j 0) false=true) (hun:l.getD 23 true=false):∃β:Nat→Nat,(∀j,j<8→ν j=.slice (some ((β j) 0)) (lenL n ns j) (lenL n ns j))∧BgT W1 pl sc n ns (updv ν 8 (.agg (mzC pl sc n ns β).toArray)) (l.setIfInBounds 23 true) w:=by
 obtain ⟨β,h⟩:=h;have h24:¬l.getD 24 false=true:=fun hl=>ff (b:=true) hun (h.bx hl).1;refine ⟨β,fun j hj=>h.v j hj (hall j hj),β,h.mks.pure (fun j hj e=>by have:=pos_le j hj;omega),fun j hj _=>?_,fun _=>⟨fun j hj=>getD_set_true (hall j hj),by simp [updv]⟩,fun hl=>?_,fun hl=>?_⟩
 ·simp only [updv,if_neg (by omega:¬j=8)];exact h.v j hj (hall j hj)
 ·rw [getD_set_ne false b10] at hl;exact absurd hl h24
 ·rw [getD_set_ne false b10] at hl;exact absurd (h.la hl).1 h24
theorem BgT.box (h:BgT W1 pl sc n ns ν l w) (h23:l.getD 23 false=true) (hun:l.getD 24 true=false):∃β:Nat→Nat,ν 8=.agg (mzC pl sc n ns β).toArray∧BgT W1 pl sc n ns (updv ν 9 (.pointer (some (w 0 0)))) (l.setIfInBounds 24 true) (w.alloc (.cells (mzC pl sc n ns β).toArray 86)):=by
 obtain ⟨β,h⟩:=h;obtain ⟨hall,h8⟩:=h.bd h23;have h24:¬l.getD 24 false=true:=fun hl=>ff (b:=true) hun hl;have hb:Below w w (w.alloc (.cells (mzC pl sc n ns β).toArray 86)):=Br.alloc Nr _;have hu:∀j,j<8→upd β 8 w.heap.size j=β j:=fun j hj=>if_neg b10;have hl8:posL.length=8:=rfl;refine ⟨β,h8,upd β 8 w.heap.size,⟨h.mks.bel.trans (hb.mono h.mks.bel.size),fun j hj _=>?_,fun i j hi hj hij _ _=>?_⟩,fun j hj _=>?_,fun _=>⟨fun j hj=>getD_set_true (hall j hj),?_⟩,fun _=>⟨getD_set_true h23,?_,?_,?_,fun j hj=>?_⟩,fun hl=>?_⟩
 ·rw [hu j hj];have h3:=h.mks.al j hj (hall j hj);exact ⟨h3.1,h3.2.below hb h3.2.hi⟩
 ·rw [hu i hi,hu j hj];exact h.mks.ne i j hi hj hij (hall i hi) (hall j hj)
 ·rw [hu j hj];simp only [updv,if_neg (by omega:¬j=9)];exact h.v j hj (hall j hj)
 ·simp only [updv,if_neg (by omega:¬(8:Nat)=9)];exact h8
 ·simp [updv,upd]
 ·simp only [upd,if_true];exact h.mks.bel.size
 ·simp only [upd,if_true];exact Bl.new w _ _
 ·rw [hu j hj];simp only [upd,if_true];have:=(h.mks.al j hj (hall j hj)).2.hi;omega
 ·rw [getD_set_ne false b10] at hl;exact absurd (h.la hl).1 h24
theorem BgT.last (h:BgT W1 pl sc n ns ν l w) (h24:l.getD 24 false=true):BgT W1 pl sc n ns (updv ν 10 (ν 9)) (l.setIfInBounds 25 true) w:=by
 obtain ⟨β,h⟩:=h;refine ⟨β,h.mks.pure (fun j hj e=>by have:=pos_le j hj;omega),fun j hj hl=>?_,fun hl=>?_,fun hl=>?_,fun _=>⟨getD_set_true h24,by simp [updv]⟩⟩
 ·rw [getD_set_ne false (by have:=pos_le j hj;omega)] at hl;simp only [updv,if_neg (by omega:¬j=10)];exact h.v j hj hl
 ·rw [getD_set_ne false b10] at hl;exact ⟨fun j hj=>getD_set_true ((h.bd hl).1 j hj),(h.bd hl).2⟩
 ·rw [getD_set_ne false b10] at hl;have h1:=h.bx hl;exact ⟨getD_set_true h1.1,h1.2⟩
end
end Go.Proofs.YtimhaidiclbnhaaGreat.Ver
