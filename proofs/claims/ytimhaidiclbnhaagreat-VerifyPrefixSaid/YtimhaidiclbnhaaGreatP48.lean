import Derived.Test.YtimhaidiclbnhaaGreatP46
import Derived.Test.YtimhaidiclbnhaaGreatP47
set_option linter.unusedSimpArgs false
set_option linter.unusedVariables false
set_option maxRecDepth 100000
open Go.ChangeShapes Go.WideShapes Go.ChangeAt Go.RowKit
namespace Go.Proofs.YtimhaidiclbnhaaGreat.Ver
open Des (Dv De Dn DIn DBlk DAns Vi At RowOf ints DSz)
open Ara (Ar ARow)
open Con (StrRow)
theorem ScIn.more {B B':Nat} {W:World} {v:Value} {l:List (List Opr)} (h:ScIn B W v l) (hB:B≤B'):ScIn B' W v l:=by
 obtain ⟨g,o,c,e,hg,h1,h2,h3⟩:=h;refine ⟨g,o,c,e,Nat.lt_of_lt_of_le hg hB,h1,h2,fun i hi=>?_⟩;obtain ⟨u,hu,g2,o2,c2,e2,q1,q⟩:=h3 i hi;exact ⟨u,hu,g2,o2,c2,e2,Nat.lt_of_lt_of_le q1 hB,q⟩
theorem ord_self (s:St):ordS (stS s) {Ev.zero with pr:=-1,tm:=s.tm}=stS s:=by
 unfold ordS;rw [if_pos rfl];rfl
theorem run_any (n:Nat) (pa:Option Addr) (pc:Nat) (scr:List (List Opr)) (sa:Option Addr) (scp ns:Nat) (a:Option Addr) (c:Nat) (lst:List ByteArray) (v:Value) (xs:List Ev) (W:World)
 (hsc:ScIn W.heap.size W (.slice sa ns scp) scr) (hns:scr.length=ns) (hn1:1≤n) (hn:n≤1000) (hns8:1≤ns∧ns≤8) (hl:StrRow 0 a c lst W) (hlen:lst.length≤n) (hsz:∀s,s∈lst→s.size≤128) (ho:OpsOK scr)
 (hev:EvRow W v xs) (hx:xs.length≤1000) (hri:Right (begS scr n lst) xs):
 Calls Tryz.prog 21 #[.agg (cfgC (.slice pa n pc) (.slice sa ns scp)).toArray,.slice a lst.length c,v] W (RunP W (.slice pa n pc) (.slice sa ns scp) (stS (runS (begS scr n lst) xs xs.length).1)):=
 run_of n pa pc scr sa scp ns a lst.length c v (begS scr n lst) xs W
  (fun W' hb=>start_any n pa pc scr sa scp ns a c lst W' (ScIn.more (hsc.below hb) hb.size) hns hn1 hn hns8 (hl.below hb) hlen)
  (ok_beg scr n lst hn b10 hsz ho) (okr_beg scr n lst hn1 b10 hsz) (begF_len n lst) hns hsc hev hx hri
theorem expected_any (n:Nat) (pa:Option Addr) (pc:Nat) (scr:List (List Opr)) (sa:Option Addr) (scp ns:Nat) (a:Option Addr) (c:Nat) (lst:List ByteArray) (v:Value) (xs:List Ev) (W:World) (p i:Nat)
 (hsc:ScIn W.heap.size W (.slice sa ns scp) scr) (hns:scr.length=ns) (hn1:1≤n) (hn:n≤1000) (hns8:1≤ns∧ns≤8) (hl:StrRow 0 a c lst W) (hlen:lst.length≤n) (hsz:∀s,s∈lst→s.size≤128) (ho:OpsOK scr)
 (hev:EvRow W v xs) (hx:xs.length≤1000) (hri:Right (begS scr n lst) xs) (hp:p<ns) (hfin:(runS (begS scr n lst) xs xs.length).1.fin.getD p 0=(i:Int)) (hi:i<(scr.getD p []).length):
 Calls Tryz.prog 18 #[.agg (cfgC (.slice pa n pc) (.slice sa ns scp)).toArray,.slice a lst.length c,v,p] W (fun e w'=>e=.returned (.agg #[(planR (runS (begS scr n lst) xs xs.length).1 p (opAt (begS scr n lst) p i) Ev.zero).1.er,(planR (runS (begS scr n lst) xs xs.length).1 p (opAt (begS scr n lst) p i) Ev.zero).1.n,.string (planR (runS (begS scr n lst) xs xs.length).1 p (opAt (begS scr n lst) p i) Ev.zero).1.dat])∧Below W W w'):=by
 have ok:=run_ok (ok_beg scr n lst hn b10 hsz ho) xs xs.length;have okr:=(okr_beg scr n lst hn1 b10 hsz).run xs xs.length;obtain ⟨k1,k2⟩:=run_keep (begS scr n lst) xs xs.length;have h:=expected_of (xs.length+1) n pa pc scr sa scp ns a lst.length c v (stS (runS (begS scr n lst) xs xs.length).1) p i W
  (fun W' hb=>run_any n pa pc scr sa scp ns a c lst v xs W' (ScIn.more (hsc.below hb) hb.size) hns hn1 hn hns8 (hl.below hb) hlen hsz ho (hev.below hb) hx hri)
  (by have h1:=ok_ord {Ev.zero with pr:=-1,tm:=(runS (begS scr n lst) xs xs.length).1.tm} ok;rw [ord_self] at h1;exact h1)
  (by have h1:=(okr.ord {Ev.zero with pr:=-1,tm:=(runS (begS scr n lst) xs xs.length).1.tm}).more (Nat.le_succ _);rw [ord_self] at h1;exact h1) b10 k1 (k2.trans (begF_len n lst)) b10 hns hfin hi hsc
 have e:(planR (stS (runS (begS scr n lst) xs xs.length).1) p (opAt (stS (runS (begS scr n lst) xs xs.length).1) p i) Ev.zero).1=(planR (runS (begS scr n lst) xs xs.length).1 p (opAt (begS scr n lst) p i) Ev.zero).1:=by
  have e2:opAt (stS (runS (begS scr n lst) xs xs.length).1) p i=opAt (begS scr n lst) p i:=by
   unfold opAt;rw [show (stS (runS (begS scr n lst) xs xs.length).1).scr=(begS scr n lst).scr from k1]
  rw [e2];exact plan_res (runS (begS scr n lst) xs xs.length).1 _ _ _ _ p _ Ev.zero Ev.zero
 rw [e] at h;exact h
theorem plan_bf (s:St) (p:Nat) (o:Opr) (x:Ev):(planR s p o x).2.bg=s.bg∧(planR s p o x).2.fin=s.fin:=by
 unfold planR;split
 ·unfold openedR;split;exact ⟨rfl,rfl⟩;split<;>exact ⟨rfl,rfl⟩
 ·unfold closedR;split<;>exact ⟨rfl,rfl⟩
 ·unfold readR;split;exact ⟨rfl,rfl⟩;split<;>exact ⟨rfl,rfl⟩
 ·unfold writeR;generalize (if andV (Des.lookV s.d p o.fd).fl 4≠0∧¬o.dat.size=0 then ((s.fs.getD (Des.lookV s.d p o.fd).fi.toNat ⟨#[]⟩).size:Int) else (Des.lookV s.d p o.fd).f)=q;split;exact ⟨rfl,rfl⟩;split;exact ⟨rfl,rfl⟩;split<;>exact ⟨rfl,rfl⟩
 ·unfold seekR;split;exact ⟨rfl,rfl⟩;split<;>exact ⟨rfl,rfl⟩
 ·unfold truncateR;split;exact ⟨rfl,rfl⟩;split<;>exact ⟨rfl,rfl⟩
 ·unfold punchR;split;exact ⟨rfl,rfl⟩;split<;>exact ⟨rfl,rfl⟩
 ·exact cl70
 ·unfold mappedR;split;exact ⟨rfl,rfl⟩;split;exact ⟨rfl,rfl⟩;split;exact ⟨rfl,rfl⟩;split;exact ⟨rfl,rfl⟩;split<;>exact ⟨rfl,rfl⟩
 ·unfold unmapR;split<;>exact ⟨rfl,rfl⟩
 ·unfold loadR;split;exact ⟨rfl,rfl⟩;split<;>exact ⟨rfl,rfl⟩
 ·unfold storeR;split;exact ⟨rfl,rfl⟩;split;exact ⟨rfl,rfl⟩;split;exact ⟨rfl,rfl⟩;split<;>exact ⟨rfl,rfl⟩
 ·unfold dupR;split<;>exact ⟨rfl,rfl⟩
 ·exact ⟨rfl,rfl⟩
theorem take_bf (s:St) (i:Int) (x:Ev):(takeS s i x).2.bg=(ordS (stS s) x).bg∧(takeS s i x).2.fin=(ordS (stS s) x).fin:=by
 unfold takeS;split
 ·exact ⟨rfl,rfl⟩
 ·show (ite _ _ _:St).bg=_∧(ite _ _ _:St).fin=_;split
  ·exact plan_bf _ _ _ _
  ·exact ⟨rfl,rfl⟩
structure RecI (s0:St) (xs:List Ev) (now:Int) (nx:List Int):Prop where
 r:Right s0 xs
 bg:∀p,(runS s0 xs xs.length).1.bg.getD p 0≤(xs.length:Int)
 tm:(runS s0 xs xs.length).1.tm≤now
 fin:(runS s0 xs xs.length).1.fin=nx
section
variable {s0:St} {xs:List Ev} {now:Int} {nx:List Int}
theorem RecI.nil (h1:∀p,s0.bg.getD p 0≤0) (h2:s0.tm≤now):RecI s0 [] now s0.fin:=⟨Right.nil s0,h1,h2,rfl⟩
theorem RecI.later (h:RecI s0 xs now nx) {n2:Int} (h2:now≤n2):RecI s0 xs n2 nx:=⟨h.r,h.bg,Int.le_trans h.tm h2,h.fin⟩
theorem run_snoc (y:Ev):(runS s0 (xs++[y]) (xs++[y]).length).1=(takeS (runS s0 xs xs.length).1 (xs.length:Int) y).2:=by
 have el:(xs++[y]).getD xs.length Ev.zero=y:=by simp [List.getD]
 rw [List.length_append,List.length_singleton];show (takeS (runS s0 (xs++[y]) xs.length).1 (xs.length:Int) ((xs++[y]).getD xs.length Ev.zero)).2=_;rw [run_pre _ _ _ _ Nr,el]
theorem RecI.fail (h:RecI s0 xs now nx) (f:Nat) (hf:f<s0.fs.length):RecI s0 (xs++[⟨now,-1,0,(f:Int),0,0,10,0,⟨#[]⟩⟩]) now nx:=by
 have e1:ordS (stS (runS s0 xs xs.length).1) ⟨now,-1,0,(f:Int),0,0,10,0,⟨#[]⟩⟩={stS (runS s0 xs xs.length).1 with tm:=now}:=by
  unfold ordS;rw [if_pos rfl]
 have e2:=take_bf (runS s0 xs xs.length).1 (xs.length:Int) ⟨now,-1,0,(f:Int),0,0,10,0,⟨#[]⟩⟩;rw [e1] at e2;refine ⟨h.r.snoc _ ?_ ?_ (fun e=>absurd rfl e),?_,?_,?_⟩
 ·unfold knB;rw [if_pos rfl];exact decide_eq_true ⟨by show (0:Int)≤f;omega,by show (f:Int)< _;omega⟩
 ·unfold ordB;rw [if_pos rfl];exact decide_eq_true (Or.inr h.tm)
 ·intro p;rw [run_snoc,e2.1,List.length_append,List.length_singleton];have:=h.bg p;show (runS s0 xs xs.length).1.bg.getD p 0≤_;omega
 ·rw [run_snoc,take_tm];exact Int.le_refl _
 ·rw [run_snoc,e2.2];exact h.fin
theorem RecI.op (h:RecI s0 xs now nx) (p i:Nat) (hp:p<s0.scr.length) (hi:i<(s0.scr.getD p []).length) (hnx:nx.getD p 0=(i:Int)) {er n:Int} {dat:ByteArray}
 (hr:(⟨er,n,dat⟩:Res)=(planR (runS s0 xs xs.length).1 p (opAt s0 p i) Ev.zero).1) (hl:p<nx.length) (hl2:p<(runS s0 xs xs.length).1.bg.length):RecI s0 (xs++[⟨now,(p:Int),(i:Int),0,0,(xs.length:Int),er,n,dat⟩]) now (nx.set p ((i:Int)+1)):=by
 have hne:¬((p:Int)=-1):=b10;have e1:ordS (stS (runS s0 xs xs.length).1) ⟨now,(p:Int),(i:Int),0,0,(xs.length:Int),er,n,dat⟩={stS (runS s0 xs xs.length).1 with tm:=now,bg:=(runS s0 xs xs.length).1.bg.set p (xs.length:Int),fin:=(runS s0 xs xs.length).1.fin.set p ((runS s0 xs xs.length).1.fin.getD p 0+1)}:=by
  unfold ordS;rw [if_neg hne];rfl
 have e2:=take_bf (runS s0 xs xs.length).1 (xs.length:Int) ⟨now,(p:Int),(i:Int),0,0,(xs.length:Int),er,n,dat⟩;rw [e1] at e2;have hfin:(runS s0 xs xs.length).1.fin.getD p 0=(i:Int):=by rw [h.fin];exact hnx
 refine ⟨h.r.snoc _ ?_ ?_ (fun _=>hr),?_,?_,?_⟩
 ·unfold knB;rw [if_neg hne];exact decide_eq_true ⟨by show (0:Int)≤p;omega,by show (p:Int)< _;omega,by show (0:Int)≤i;omega,by show (i:Int)< _;rw [Int.toNat_natCast];omega⟩
 ·unfold ordB;rw [if_neg hne];have h1:=h.tm;have h2:=h.bg p;refine decide_eq_true ⟨decide_eq_true (Or.inr h1),?_,?_,?_,?_⟩
  ·show (0:Int)≤xs.length;omega
  ·show (xs.length:Int)≤xs.length;omega
  ·show (runS s0 xs xs.length).1.bg.getD (Int.toNat p) 0≤_;rw [Int.toNat_natCast];exact h2
  ·show (i:Int)=(runS s0 xs xs.length).1.fin.getD (Int.toNat p) 0;rw [Int.toNat_natCast];exact hfin.symm
 ·intro q;rw [run_snoc,e2.1,List.length_append,List.length_singleton];have:=h.bg q;show ((runS s0 xs xs.length).1.bg.set p (xs.length:Int)).getD q 0≤_;rw [getD_set _ _ _ _ _ hl2];split<;>omega
 ·rw [run_snoc,take_tm];exact Int.le_refl _
 ·rw [run_snoc,e2.2,hfin,h.fin]
end
theorem EvRow.ofOwn {W:World} {B:Nat} {v:Value} {xs:List Ev} (h:W.ownsRow B 64 9 v xs.length (xs.flatMap Ev.cells)):EvRow W v xs:=by
 obtain ⟨hl,⟨h1,h2⟩|⟨g,cap,cur,h1,h2,h3,h4,h5,h6,h7⟩⟩:=h
 ·exact Or.inl ⟨h1,List.length_eq_zero_iff.1 h2⟩
 ·have hlt:g<W.heap.size:=by
   rcases Nat.lt_or_ge g W.heap.size with h8|h8
   ·exact h8
   ·rw [Array.getElem?_eq_none h8] at h3;cases h3
  refine Or.inr ⟨g,0,cap,h1,hlt,h4,h5,fun i hi j u hu=>?_⟩;have hj:j<9:=(List.getElem?_eq_some_iff.1 hu).1;rw [Nat.zero_add,cell_of_row W g _ cur 64 (0,0) h3];have e:(xs.flatMap Ev.cells)[i*9+j]? =some u:=by
   have h9:=flatk_at Ev.cells 9 (fun _=>rfl) Ev.zero xs i j hi hj;rw [h9];exact hu
  rw [←h7,List.getElem?_take,if_pos b10] at e;simpa using e
theorem find64:(Tryz.prog.info? 64).map (fun i=>(i.zero,i.size,i.bytes))=some (some (.agg #[I,I,I,I,I,I,I,I,J]),9,80):=by kernel_rfl
theorem ev_one1 (x:Ev):∀u∈x.cells,u.oneCell'=true:=by
 intro u hu;simp only [Ev.cells,List.mem_cons,List.not_mem_nil,or_false] at hu;rcases hu with rfl|rfl|rfl|rfl|rfl|rfl|rfl|rfl|rfl<;>rfl
theorem flat_snoc (xs:List Ev) (y:Ev):(xs++[y]).flatMap Ev.cells=xs.flatMap Ev.cells++y.cells:=b11
def RecP (w0:World) (t:Nat) (ta:Option Addr) (len cap:Nat) (s0:St) (W:World) (e:Ending) (w':World):Prop:=
 ∃xs lv,e=.returned lv∧w'.ownsRow W.heap.size 64 9 lv xs.length (xs.flatMap Ev.cells)∧Right s0 xs∧xs.length≤60∧TP w0 t ta len cap w'∧Tock t W w'
structure RecL (w0:World) (t:Nat) (ta:Option Addr) (len cap:Nat) (s0:St) (W:World) (ns:Nat) (cf:List Value) (k:Nat) (xs:List Ev) (now:Int) (nx:List Int) (lv:Value) (wr:World):Prop where
 own:wr.ownsRow (W.heap.size+2) 64 9 lv xs.length (xs.flatMap Ev.cells)
 ri:RecI s0 xs now nx
 xl:xs.length≤k
 nl:nx.length=ns
 nb:∀p,0≤nx.getD p 0∧nx.getD p 0≤k
 cf:At wr W.heap.size cf
 nx:At wr (W.heap.size+1) (ints nx)
 tp:TP w0 t ta len cap wr
 tk:Tock t W wr
 hi:W.heap.size+2≤wr.heap.size
 tl:t<W.heap.size
section
variable {w0:World} {t:Nat} {ta:Option Addr} {len cap:Nat} {s0:St} {W:World} {ns:Nat} {cf:List Value} {k:Nat} {xs:List Ev} {now:Int} {nx:List Int} {lv:Value} {wr w':World}
theorem RecL.tick (h:RecL w0 t ta len cap s0 W ns cf k xs now nx lv wr) (ht:Tick t wr w') (hp:TP w0 t ta len cap w'):RecL w0 t ta len cap s0 W ns cf k xs now nx lv w':=
 have h1:=h.tl
 {h with own:=ht.own h.own b10,cf:=h.cf.tick ht b10,nx:=h.nx.tick ht b10,tp:=hp,tk:=h.tk.trans ht.tock,hi:=by rw [ht.size];exact h.hi}
theorem RecL.below (h:RecL w0 t ta len cap s0 W ns cf k xs now nx lv wr) (hb:Below wr wr w'):RecL w0 t ta len cap s0 W ns cf k xs now nx lv w':=
 {h with own:=Des.ownsRow_below h.own hb,cf:=h.cf.below hb h.cf.hi,nx:=h.nx.below hb h.nx.hi,tp:=h.tp.below hb h.tp.hi,tk:=h.tk.trans (Tock.ofBelow hb Nr),hi:=Nat.le_trans h.hi hb.size}
theorem RecL.later (h:RecL w0 t ta len cap s0 W ns cf k xs now nx lv wr) {n2:Int} {k2:Nat} (hk:k≤k2) (h1:now≤n2):RecL w0 t ta len cap s0 W ns cf k2 xs n2 nx lv wr:=
 {h with ri:=h.ri.later h1,xl:=Nat.le_trans h.xl hk,nb:=fun p=>⟨(h.nb p).1,Int.le_trans (h.nb p).2 b10⟩}
theorem RecL.app (h:RecL w0 t ta len cap s0 W ns cf k xs now nx lv wr) {y:Ev} {nx':List Int} {g c:Nat} (hr:RecI s0 (xs++[y]) now nx)
 (hown:w'.ownsRow (W.heap.size+2) 64 9 (.slice (some (g 0)) (xs.length+1) c) (xs.length+1) (xs.flatMap Ev.cells++y.cells)) (hg:wr.grownBy w' lv.ownBlock):
 RecL w0 t ta len cap s0 W ns cf (k+1) (xs++[y]) now nx (.slice (some (g 0)) (xs.length+1) c) w':=
 have h1:=h.tl;have hb:Below (W.heap.size+2) wr w':=(Below.refl _ wr).grown hg h.hi (fun q hq=>(h.own.lt q hq).1)
 {own:=by rw [flat_snoc,List.length_append,List.length_singleton];exact hown
  ri:=hr
  xl:=by rw [List.length_append,List.length_singleton];have:=h.xl;omega
  nl:=h.nl
  nb:=fun p=>⟨(h.nb p).1,by have:=(h.nb p).2;omega⟩
  cf:=h.cf.below hb b10
  nx:=h.nx.below hb b10
  tp:=h.tp.below hb b10
  tk:=tock_put h.tk hb b10
  hi:=Nat.le_trans h.hi hb.size
  tl:=h1}
theorem RecL.op (h:RecL w0 t ta len cap s0 W ns cf k xs now nx lv wr) {y:Ev} {p g c:Nat} {z:Int} (hp:p<ns) (hz:0≤z∧z≤k+1) (hr:RecI s0 (xs++[y]) now (nx.set p z))
 (hown:w'.ownsRow (W.heap.size+2) 64 9 (.slice (some (g 0)) (xs.length+1) c) (xs.length+1) (xs.flatMap Ev.cells++y.cells)) (hg:wr.grownBy w' lv.ownBlock):
 RecL w0 t ta len cap s0 W ns cf (k+1) (xs++[y]) now (nx.set p z) (.slice (some (g 0)) (xs.length+1) c) (w'.setCell (W 1 p) z):=
 have h1:=h.tl;have hb:Below (W.heap.size+2) wr w':=(Below.refl _ wr).grown hg h.hi (fun q hq=>(h.own.lt q hq).1);have hb2:Below (W.heap.size+1) wr (w'.setCell (W 1 p) z):=Below.setCell (p:=(W 1 p)) (hb.mono (by omega:W.heap.size+1≤W.heap.size+2)) Nr _
 {own:=by
   rw [flat_snoc,List.length_append,List.length_singleton];exact own_keepB hown fun q hq=>Below.heap_setCell w' ⟨W.heap.size+1,p,none⟩ _ q (by have h9:W.heap.size+2≤q:=(hown.lt q hq).1;exact (by omega:q≠W.heap.size+1))
  ri:=hr
  xl:=by rw [List.length_append,List.length_singleton];have:=h.xl;omega
  nl:=by rw [List.length_set];exact h.nl
  nb:=fun q=>by
   rw [getD_set0];have:=h.nb q;split<;>omega
  cf:=h.cf.below hb2 b10
  nx:=by rw [←Des.ints_set];exact (h.nx.below hb b10).set p _
  tp:=h.tp.below hb2 b10
  tk:=tock_put h.tk hb2 b10
  hi:=Nat.le_trans h.hi hb2.size
  tl:=h1}
end
theorem rec_start (w0:World) (t:Nat) (ta:Option Addr) (len cap:Nat) (scr:List (List Opr)) (n:Nat) (lst:List ByteArray) (W:World) (cf:List Value) (h:TP w0 t ta len cap W):
 RecL w0 t ta len cap (begS scr n lst) W scr.length cf 0 [] 0 (List.replicate scr.length 0) (.slice none 0 0) ((W.alloc (.cells cf.toArray 44)).alloc (.cells (List.replicate scr.length (.int .i64 0)).toArray 3)):=by
 have hb1:Below W W (W.alloc (.cells cf.toArray 44)):=Br.alloc Nr _;have hb2:Below W W ((W.alloc (.cells cf.toArray 44)).alloc (.cells (List.replicate scr.length (.int .i64 0)).toArray 3)):=hb1.alloc hb1.size _;have e:ints (List.replicate scr.length 0)=List.replicate scr.length (.int .i64 0):=by unfold ints;rw [List.map_replicate]
 refine ⟨World.ownsRow_nil _ _ 64 9,RecI.nil (fun p=>?_) (Int.le_refl _),Nat.le_refl _,List.length_replicate,fun p=>by rw [repl_get];exact ⟨Int.le_refl _,Int.le_refl _⟩,(At.new W cf 44).alloc _,?_,h.below hb2 h.hi,Tock.ofBelow hb2 Nr,?_,h.hi⟩
 ·show (List.replicate scr.length (0:Int)).getD p 0≤0;rw [repl_get];exact Int.le_refl _
 ·rw [e];exact (At.new (W.alloc (.cells cf.toArray 44)) (List.replicate scr.length (.int .i64 0)) 3).cast (Des.alloc_size _ _)
 ·rw [Des.alloc_size,Des.alloc_size];omega
theorem rec_expected {w0:World} {t:Nat} {ta:Option Addr} {len cap:Nat} {scr:List (List Opr)} {n ns:Nat} {pa sa a:Option Addr} {pc scp c:Nat} {lst:List ByteArray} {W:World} {cf:List Value} {k:Nat} {xs:List Ev} {now:Int} {nx:List Int} {lv:Value} {wr:World}
 (hR:RecL w0 t ta len cap (begS scr n lst) W ns cf k xs now nx lv wr) (hk:k≤60) (hsc:ScIn t W (.slice sa ns scp) scr) (hns:scr.length=ns) (hn1:1≤n) (hn:n≤1000) (hns8:1≤ns∧ns≤8) (hl:StrRow (t+1) a c lst W) (hlen:lst.length≤n) (hsz:∀s,s∈lst→s.size≤128) (ho:OpsOK scr) (p i:Nat) (hp:p<ns) (hi:i<(scr.getD p []).length) (hnx:nx.getD p 0=(i:Int)):
 Calls Tryz.prog 18 #[.agg (cfgC (.slice pa n pc) (.slice sa ns scp)).toArray,.slice a lst.length c,lv,p] wr (fun e w'=>∃er m dat,e=.returned (.agg #[.int .i64 er,.int .i64 m,.string dat])∧Below wr wr w'∧(⟨er,m,dat⟩:Res)=(planR (runS (begS scr n lst) xs xs.length).1 p (opAt (begS scr n lst) p i) Ev.zero).1):=by
 have htl:=hR.tl;have hxl:=hR.xl;have hb:Below t W wr:=⟨hR.tk.os,hR.tk.tape,hR.tk.output,hR.tk.size,fun j hj=>hR.tk.block j b10 b10⟩
 have hl' : StrRow 0 a c lst wr := Con.StrRow.mono (str_keep hl hR.tk.size fun q hq=>by
  rcases hl with ⟨h1,_⟩|⟨g,h1,h2,h3,_⟩
  ·rw [h1] at hq;cases hq
  ·rw [h1] at hq;rw [←Option.some.inj hq];exact hR.tk.block g b10 h3) (Nat.zero_le _)
 have hfin:(runS (begS scr n lst) xs xs.length).1.fin.getD p 0=(i:Int):=by rw [hR.ri.fin];exact hnx
 exact (expected_any n pa pc scr sa scp ns a c lst lv xs wr p i ((hsc.below hb).more (by have:=hR.tk.size;omega)) hns hn1 hn hns8 hl' hlen hsz ho (EvRow.ofOwn hR.own) b10 hR.ri.r hp hfin hi).mono fun e w' ⟨h1,h2⟩=>⟨_,_,_,h1,h2,rfl⟩
end Go.Proofs.YtimhaidiclbnhaaGreat.Ver
