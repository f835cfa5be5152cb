import Derived.Test.YtimhaidiclbnhaaGreatP03
set_option linter.unusedSimpArgs false
set_option linter.unusedVariables false
set_option maxRecDepth 100000
open Go.ChangeShapes Go.WideShapes Go.ChangeAt Go.RowKit
namespace Go.Proofs.YtimhaidiclbnhaaGreat.Des
def cntL (L:List Int) (m:Nat):List Int:=(List.range m).map (fun i:Nat=>((L.count ((i:Int)+1):Nat):Int))
theorem cnt_len (L:List Int) (m:Nat):(cntL L m).length=m:=by simp [cntL]
theorem cnt_get (L:List Int) (m k:Nat) (hk:k<m):(cntL L m).getD k 0=((L.count ((k:Int)+1):Nat):Int):=by
 rw [getD_get (by rw [cnt_len];exact hk)];simp [cntL]
theorem cnt_zero (L:List Int) (m:Nat):cntL (L++[0]) m=cntL L m:=by
 unfold cntL;refine List.map_congr_left fun i _=>?_
 rw [List.count_append,List.count_singleton];have:((0:Int)==(i:Int)+1)=false:=by simp;omega
 simp [this]
theorem cnt_set (L:List Int) (m k:Nat) (hk:k<m):(cntL L m).set k ((cntL L m).getD k 0+1)=cntL (L++[(k:Int)+1]) m:=by
 refine List.ext_getElem (by simp [cntL]) fun i h1 h2=>?_
 have hi:i<m:=by simpa [cnt_len] using h2
 rw [List.getElem_set];by_cases e:k=i
 ·subst e;rw [if_pos rfl,cnt_get _ _ _ hk];simp [cntL,List.count_append]
 ·rw [if_neg e];have h3:((k:Int)+1==(i:Int)+1)=false:=by simp;omega
  simp only [cntL,List.getElem_map,List.getElem_range,List.count_append,List.count_singleton,h3];simp
theorem cnt_nil (m:Nat):cntL [] m=List.replicate m 0:=by
 refine List.ext_getElem (by simp [cntL]) fun i h1 h2=>?_
 simp [cntL]
theorem cnt_bd (L:List Int) (m k:Nat) (hk:k<m):0≤(cntL L m).getD k 0∧(cntL L m).getD k 0≤L.length:=by
 rw [cnt_get _ _ _ hk];have:=List.count_le_length (a:=(k:Int)+1) (l:=L);omega
def tabB (m:Nat) (l:List Int):Bool:=decide (l.length=16)&&l.all (fun z=>decide (0≤z∧z≤(m:Int)))
def refOK (d:De):Bool:=d.t.all (tabB d.o.length)
def refC (d:De):List Int:=cntL d.t.flatten d.o.length
structure RefW (w:World) (v0 v1:Value) (W:World) (c:List Int):Prop where
 bel:Below w w W
 p0:W.cell? (w 0 0)=some v0
 p1:W.cell? (w 0 1)=some v1
 row:At W (w.heap.size+1) (ints c)
theorem RefW.set {w W:World} {v0 v1:Value} {c:List Int} (h:RefW w v0 v1 W c) (k:Nat) (z:Int):RefW w v0 v1 (W.setCell (w 1 k) z) (c.set k z):=
 ⟨h.bel.setCell (p:=(w 1 k)) (Nat.le_succ _) _,
  (World.cell?_setCell_other _ _ _ _ (by intro e;have:=(Addr.mk.inj e).1;omega)).trans h.p0,(World.cell?_setCell_other _ _ _ _ (by intro e;have:=(Addr.mk.inj e).1;omega)).trans h.p1,
  by rw [←ints_set];exact h.row.set k _⟩
theorem made_ints (n:Nat):madeCells #[I] n=(ints (List.replicate n 0)).toArray:=by
 apply Array.ext
 ·simp [madeCells,ints]
 ·intro i h1 h2;have h3:i%1=0:=Nat.mod_one i;simp [madeCells,ints,h3]
theorem RefW.start (w:World) (v0 v1:Value) (n:Nat):RefW w v0 v1 ((w.alloc (Obj.cells #[v0,v1] 83)).alloc (.cells (madeCells #[I] n) 3)) (cntL [] n):=by
 refine ⟨((Below.refl _ w).alloc Nr _).alloc b11 _,by simp,by simp,?_⟩;rw [made_ints,cnt_nil];exact (At.new (w.alloc (Obj.cells #[v0,v1] 83)) (ints (List.replicate n 0)) 3).cast b11
theorem make_run (n:Nat) (hn:n≤1000000) (w:World):(Instr.makeSlice 22 (.int .i64 (n:Int)) (.int .i64 (n:Int))).run Tryz.prog w=.ok (.slice (some (w 0 0)) n n) (w.alloc (.cells (madeCells #[I] n) 3)):=
 run_make_row' (P:=Tryz.prog) 22 3 (.int .i64 0) 8 Tryz.underlying22 int_info rfl .i64 .i64 n b10 b10 w
theorem tab_pref {m:Nat} {t:List (List Int)} {k:Nat} (hk:k<t.length):(t.take (k+1)).all (tabB m)=((t.take k).all (tabB m)&&tabB m (t.getD k [])):=by
 rw [List.take_add_one,List.all_append,getD_get hk];simp [List.getElem?_eq_getElem hk]
theorem tab_false {m:Nat} {t:List (List Int)} {k:Nat} (hk:k<t.length) (h:tabB m (t.getD k [])=false):t.all (tabB m)=false:=by
 rw [List.all_eq_false];exact ⟨_,List.getElem_mem hk,by rw [←getD_get (d:=[]) hk,h];simp⟩
theorem flat_pref {t:List (List Int)} {k:Nat} (hk:k<t.length):(t.take (k+1)).flatten=(t.take k).flatten++t.getD k []:=by
 rw [List.take_add_one,List.flatten_append,getD_get hk];simp [List.getElem?_eq_getElem hk]
theorem take_pref {l:List Int} {j:Nat} (hj:j<l.length):l.take (j+1)=l.take j++[l.getD j 0]:=by
 rw [List.take_add_one,getD_get hj];simp [List.getElem?_eq_getElem hj]
theorem flat_bd {m:Nat} {t:List (List Int)} (h:t.all (tabB m)=true):t.flatten.length=16*t.length:=by
 induction t with
 |nil=>rfl
 |cons a r ih=>
  rw [List.all_cons,Bool.and_eq_true] at h;have h1:=h.1;unfold tabB at h1;rw [Bool.and_eq_true] at h1;have h2:=of_decide_eq_true h1.1;rw [List.flatten_cons,List.length_append,ih h.2,h2,List.length_cons];omega
def RowsAt (w:World) (ta:Option Addr) (tc:Nat) (t:List Tb):Prop:=
 ∀W,Below w w W→∀k,k<t.length→∃g o,ta=some ⟨g,o,none⟩∧(t.length:Int)≤tc∧(tc:Int)≤9223372036854775807∧W.cell? ⟨g,o+k,none⟩=some (.slice (t.getD k Tb.nil).a (t.getD k Tb.nil).l.length (t.getD k Tb.nil).c)∧
  ∀j,j<(t.getD k Tb.nil).l.length→∃g' o',(t.getD k Tb.nil).a=some ⟨g',o',none⟩∧((t.getD k Tb.nil).l.length:Int)≤(t.getD k Tb.nil).c∧((t.getD k Tb.nil).c:Int)≤9223372036854775807∧W.cell? ⟨g',o'+j,none⟩=some (((t.getD k Tb.nil).l.getD j 0):U)
theorem DIn.rows {w:World} {x:Dv} (h:DIn w x):RowsAt w x.ta x.tc x.t:=by
 intro W hb k hk;obtain ⟨g,o,h1,h2,h3,h4,h5⟩:=h.row k hk;refine ⟨g,o,h1,h3,h4,(hb.cell (p:=(g (o+k))) h2).trans h5,fun j hj=>?_⟩;obtain ⟨g',o',e1,e2,e3,e4,e5⟩:=h.num k hk j hj;exact ⟨g',o',e1,e3,e4,(hb.cell (p:=(g' (o'+j))) e2).trans e5⟩
theorem map_getD (t:List Tb) (k:Nat) (hk:k<t.length):(t.map Tb.l).getD k []=(t.getD k Tb.nil).l:=by
 rw [getD_get (by simpa using hk),getD_get hk,List.getElem_map]
def RefsPost (w:World) (d:De) (e:Ending) (w':World):Prop:=
 Below w w w'∧((refOK d=true∧e=.returned (.tuple #[.slice (some (w 1 0)) d.o.length d.o.length,.bool true])∧At w' (w.heap.size+1) (ints (refC d)))∨(refOK d=false∧e=.returned (.tuple #[σ,.bool false])))
namespace Aaui
theorem km44 {p : Prop} (h:p:=by
 have htp:=tab_pref (m:=m) (t:=t.map Tb.l) (k:=k) (by simpa using hlt);have htf:=tab_false (m:=m) (t:=t.map Tb.l) (k:=k) (by simpa using hlt);have hbd:=flat_bd HT.out;rw [List.length_take,List.length_map] at hbd;rw [HT.out,Bool.true_and] at htp;rw [map_getD _ _ hlt] at hfl htp htf;generalize t.getD k Tb.nil=y at *;obtain ⟨ya,yc,yl⟩:=y;simp only at hfl htp htf hcell HN;have HFL:=Hd hfl;have HTP:=Hd htp;have HTF:=Hd htf;have p0:=HW.out.p0;have p1:=HW.out.p1;have hbd2:((t.map Tb.l).take k).flatten.length≤16000:=by
  rw [hbd];omega
 have HBD:=Hd hbd2;clear hfl htp htf hbd hbd2;generalize ((t.map Tb.l).take k).flatten=L at *;by_cases h16:yl.length=16
 ·have h16':(yl.length:Int)=16:=b10;go_wp2_with fail;go_loopw [25] (fun v25 wr=>∃j:Nat,j≤16∧v25=.int .i64 j∧Hid ((yl.take j).all (fun z=>decide (0≤z∧z≤(m:Int)))=true)∧Hid (RefW w (.slice oa m oc) (.slice (some (g of)) t.length tc) wr (cntL (L++yl.take j) m))) (fun v25 _=>200-(intOf v25).toNat)
  case atStart=>exact ⟨0,Nat.zero_le _,rfl,rfl,by rw [List.take_zero,List.append_nil];exact HW⟩
  case round=>as_aux_lemma=>
   clear HW p0 p1 hcell HT;obtain ⟨j,hj,rfl,HA,HW⟩:=hrel;have p0:=HW.out.p0;have p1:=HW.out.p1;by_cases hj16:j<16
   ·exact cm71
   ·obtain rfl:j=16:=b10;have htt:yl.take 16=yl:=List.take_of_length_le b10;have hA:=HA.out;rw [htt] at hA;have htb:tabB m yl=true:=by
     unfold tabB;rw [hA,decide_eq_true h16];rfl
    exact cl59
 ·have h16':(yl.length:Int)≠16:=b10;have HF:=Hd (HTF.out (by unfold tabB;rw [decide_eq_false h16];rfl));clear h16;go_wp2_with fail;exact HP.out _ _ ⟨HW.out.bel,Or.inr ⟨HF.out,rfl⟩⟩):p:=h
theorem km71 {p : Prop} (h:p:=by
 have HBAD : Hid (¬ (0 ≤ z ∧ z ≤ (m : Int)) → (t.map Tb.l).all (tabB m) = false) := fun hz => HTF.out (by
  unfold tabB;rw [Bool.and_eq_false_iff];exact Or.inr (List.all_eq_false.2 ⟨z,HMEM.out,by simpa using hz⟩))
 by_cases hz:0≤z∧z≤(m:Int)
 ·have HA2:Hid ((yl.take (j+1)).all (fun z=>decide (0≤z∧z≤(m:Int)))=true):=by
   rw [Hid,HTK.out,List.all_append,HA.out,Bool.true_and];simpa using hz
  obtain ⟨z1,z2⟩:=hz;by_cases hz0:z=0
  ·subst hz0;have HW2:=HW.out;rw [←cnt_zero,List.append_assoc,←HTK.out] at HW2;replace HW2:=Hd HW2;exact cl53
  ·obtain ⟨q,hq⟩:∃q:Nat,z=(q:Int)+1:=⟨(z-1).toNat,by omega⟩
   subst hq;have hqm:q<m:=b10;have hqm':(q:Int)<(m:Int):=b10;have hrd:=HW.out.row.cell q _ (ints_at _ q (by rw [cnt_len];exact hqm));have hfz:=HW.out.row.free q (by rw [ints_len,cnt_len];exact hqm);have hcb:=cnt_bd (L++yl.take j) m q hqm;rw [List.length_append,List.length_take] at hcb;have hLb:=HBD.out;have HW2:=HW.out.set q ((cntL (L++yl.take j) m).getD q 0+1);rw [cnt_set _ _ _ hqm,List.append_assoc,←HTK.out] at HW2;replace HW2:=Hd HW2;have hc0:0≤(cntL (L++yl.take j) m).getD q 0:=hcb.1;have hc9:(cntL (L++yl.take j) m).getD q 0≤17000:=b10;clear hcb;generalize (cntL (L++yl.take j) m).getD q 0=c at *;have hwq:IntKind.i64.wrap ((q:Int)+1-1)=(q:Int):=by
    rw [show (q:Int)+1-1=q from by omega];exact IntWalk.i64_in _ b10
   exact cl53
 ·have HF:=Hd (HBAD.out hz);have HN2:=Hd hz;clear hz;go_wp2_with fail
  all_goals first|(exfalso;have:=HN2.out;omega)|(exact HP.out _ _ ⟨HW.out.bel,Or.inr ⟨HF.out,rfl⟩⟩)):p:=h
end Aaui
open Aaui in
set_option maxHeartbeats 4000000 in
theorem refs_any (x:Dv) (w:World) (h:DIn w x) (ho:x.o.length≤10000) (ht:x.t.length≤1000):
 Calls Tryz.prog 140 #[dVal x] w (RefsPost w x.pl):=by
 have HR:=Hd h.rows;have hcap:=h.t.cap;clear h;unfold dVal;obtain ⟨oa,oc,o,ta,tc,t⟩:=x;simp only at HR ho ht hcap;have HP:Hid (∀e w',Below w w w'∧((refOK ⟨o,t.map Tb.l⟩=true∧e=.returned (.tuple #[.slice (some (w 1 0)) o.length o.length,.bool true])∧At w' (w.heap.size+1) (ints (cntL (t.map Tb.l).flatten o.length)))∨(refOK ⟨o,t.map Tb.l⟩=false∧e=.returned (.tuple #[σ,.bool false])))→RefsPost w (Dv.pl ⟨oa,oc,o,ta,tc,t⟩) e w'):=fun e w' h=>h;generalize RefsPost w (Dv.pl ⟨oa,oc,o,ta,tc,t⟩)=Post at *;have hRE:refOK ⟨o,t.map Tb.l⟩=(t.map Tb.l).all (tabB o.length):=rfl;rw [hRE] at HP;clear hRE;have HC0:Hid (RefW w (.slice oa o.length oc) (.slice ta t.length tc) ((w.alloc (Obj.cells #[.slice oa o.length oc,.slice ta t.length tc] 83)).alloc (.cells (madeCells #[I] o.length) 3)) (cntL [] o.length)):=RefW.start _ _ _ _;have hmk:=make_run o.length b10;generalize hm:o.length=m at *;have hm0:(m:Int)≤10000:=b10;clear hm;obtain ⟨Z,hZ⟩:∃Z,Z=madeCells #[I] m:=⟨_,rfl⟩
 rw [←hZ] at hmk HC0;clear hZ;go_enter Tryz.func140,Tryz.ntmps140;go_wp2_with fail;clear hmk;generalize (w.alloc (Obj.cells #[.slice oa m oc,.slice ta t.length tc] 83)).alloc (.cells Z 3)=w1 at *;go_loopw [16] (fun v16 wr=>∃k:Nat,k≤t.length∧v16=.int .i64 k∧Hid (((t.map Tb.l).take k).all (tabB m)=true)∧Hid (RefW w (.slice oa m oc) (.slice ta t.length tc) wr (cntL ((t.map Tb.l).take k).flatten m))) (fun v16 _=>2000-(intOf v16).toNat)
 case atStart=>exact ⟨0,Nat.zero_le _,rfl,rfl,HC0⟩
 case round=>
  obtain ⟨k,hk,rfl,HT,HW⟩:=hrel;by_cases hlt:k<t.length
  ·have hlt':(k:Int)<(t.length:Int):=b10;obtain ⟨g,of,rfl,_,_,hcell,_⟩:=HR.out wr HW.out.bel k hlt;exact cm44
  ·obtain rfl:k=t.length:=b10;have htt:(t.map Tb.l).take t.length=t.map Tb.l:=List.take_of_length_le b11;rw [htt] at HT HW;go_wp2_with fail;exact HP.out _ _ ⟨HW.out.bel,Or.inl ⟨HT.out,rfl,HW.out.row⟩⟩
structure DCel (W:World) (g o:Nat) (a:Dn):Prop where
 c0:W.cell? (g o)=some (a.fi:U)
 c1:W.cell? (g (o+1))=some (a.fl:U)
 c2:W.cell? (g (o+2))=some (a.f:U)
 c3:W.cell? (g (o+3))=some (a.cu:U)
 c4:W.cell? (g (o+4))=some (a.rf:U)
theorem DCel.of {W:World} {g o:Nat} {a:Dn} (h:W.rangeAt g o a.cells):DCel W g o a:=by
 refine ⟨?_,?_,?_,?_,?_⟩
 ·have:=h 0 _ rfl;rwa [Nat.add_zero] at this
 ·exact h 1 _ rfl
 ·exact h 2 _ rfl
 ·exact h 3 _ rfl
 ·exact h 4 _ rfl
theorem DCel.below {W W':World} {g o B:Nat} {a:Dn} (h:DCel W g o a) (hb:Below B W W') (hg:g<B):DCel W' g o a:=
 ⟨(hb.cell (p:=⟨g,_,none⟩) hg).trans h.c0,(hb.cell (p:=⟨g,_,none⟩) hg).trans h.c1,(hb.cell (p:=⟨g,_,none⟩) hg).trans h.c2,(hb.cell (p:=⟨g,_,none⟩) hg).trans h.c3,(hb.cell (p:=⟨g,_,none⟩) hg).trans h.c4⟩
theorem DCel.new (W:World) (a:Dn):DCel (W.alloc (.cells #[a.fi,a.fl,a.f,a.cu,a.rf] 126)) W.heap.size 0 a:=by
 refine ⟨?_,?_,?_,?_,?_⟩<;>simp
def itemB (c:Int) (last:Bool) (a:Dn):Bool:=decide (a.rf=c)&&(if c=0 then decide (a=Dn.zero)&&!last else rightD a)
def itemsB (d:De) (n:Nat):Bool:=(List.range n).all (fun i=>itemB ((refC d).getD i 0) (decide (i+1=d.o.length)) (d.o.getD i Dn.zero))
def checkV (d:De):Bool:=refOK d&&decide (1≤d.t.length∧d.t.length≤8∧d.o.length≤128)&&itemsB d d.o.length
theorem items_succ (d:De) (k:Nat):itemsB d (k+1)=(itemsB d k&&itemB ((refC d).getD k 0) (decide (k+1=d.o.length)) (d.o.getD k Dn.zero)):=by
 unfold itemsB;rw [List.range_succ,List.all_append];simp
theorem items_false {d:De} {k:Nat} (hk:k<d.o.length) (h:itemB ((refC d).getD k 0) (decide (k+1=d.o.length)) (d.o.getD k Dn.zero)=false):checkV d=false:=by
 unfold checkV itemsB;rw [Bool.and_eq_false_iff];exact Or.inr (List.all_eq_false.2 ⟨k,List.mem_range.2 hk,by rw [h];simp⟩)
theorem refC_bd {d:De} (h:refOK d=true) (k:Nat) (hk:k<d.o.length):0≤(refC d).getD k 0∧(refC d).getD k 0≤16*d.t.length:=by
 have:=cnt_bd d.t.flatten d.o.length k hk;rw [flat_bd h] at this;unfold refC;omega
def DescAt (w:World) (oa:Option Addr) (oc:Nat) (o:List Dn):Prop:=
 ∀W,Below w w W→∀k,k<o.length→∃g of,oa=some ⟨g,of,none⟩∧(o.length:Int)≤oc∧(oc:Int)≤9223372036854775807∧DCel W g (of+k*5) (o.getD k Dn.zero)
theorem DIn.descs {w:World} {x:Dv} (h:DIn w x):DescAt w x.oa x.oc x.o:=by
 intro W hb k hk;obtain ⟨g,of,h1,h2,h3,h4,h5⟩:=h.desc k hk;exact ⟨g,of,h1,h3,h4,(DCel.of h5).below hb h2⟩
namespace Ami8
theorem km18 {p : Prop} (h:p:=by
 obtain ⟨f0,fk⟩:=HF.out _ HB2.out;replace fk:=fk k hlt;generalize wr.alloc (Obj.cells #[fi,fl,f,cu,rf] 126)=wa at *;obtain ⟨cb0,cb1⟩:=HB.out trivial k hlt;have hI:=HI.out k hlt;have hJ:=HJ.out k;rw [HT.out,Bool.true_and] at hJ;have HIk:=Hd hI;have HJk:=Hd hJ;clear hI hJ HI HJ HB HD HF HW k0 k1 k2 k3 k4;generalize C.getD k 0=c at *;generalize wr.heap.size=A at *;obtain ⟨k0,k1,k2,k3,k4⟩:=hA;simp only [Nat.zero_add] at k0 k1 k2 k3 k4;have hlo:w.heap.size+1≤w2.heap.size:=hsz;have HBX:=Hd (HBel.out.trans (HB2.out.mono HBel.out.size));have HDM:Hid (o.getD k Dn.zero=⟨fi,fl,f,cu,rf⟩):=hdn;rw [HDM.out] at HIk HJk;have hml:decide (k+1=o.length)=decide ((k:Int)=(o.length:Int)-1):=decide_eq_decide.2 b10;rw [hml] at HIk HJk;clear hdn hml HDM;by_cases hrf:rf=c
 ·subst hrf;by_cases hc0:rf=0
  ·subst hc0;by_cases hz:fi=0∧fl=0∧f=0∧cu=0
   ·obtain ⟨rfl,rfl,rfl,rfl⟩:=hz;by_cases hlast:(k:Int)=(o.length:Int)-1
    ·have HV:=Hd (HIk.out (by rw [decide_eq_true hlast];rfl));have hle:(o.length:Int)-1≤(k:Int):=b10;clear hlast;exact cl101
    ·have HV:=HJk.out;rw [decide_eq_false hlast,show itemB 0 false ⟨0,0,0,0,0⟩=true from rfl] at HV;replace HV:=Hd HV;go_quiet (fail);go_wp2_with fail;go_roundw
     case rel=>exact ⟨k+1,by omega,by go_num,HV,below_drewN HB2.out _⟩
     case measure=>simp [intOf];omega
   ·have HV := Hd (HIk.out (by
     unfold itemB;rw [if_pos rfl,decide_eq_false (show ¬((⟨fi,fl,f,cu,0⟩:Dn)=Dn.zero) from fun e=>hz (by cases e;exact ⟨rfl,rfl,rfl,rfl⟩)),Bool.false_and,Bool.and_false]))
    have HN:=Hd hz;clear hz;go_quiet (fail);go_wp2_with fail
    all_goals first|(exfalso;have:=HN.out;omega)|(go_ret;exact RetW.mk b24 (below_drewN HBX.out _))
  ·have hpos:0<rf:=b10;have hit:∀b,itemB rf b ⟨fi,fl,f,cu,rf⟩=(fixB fi fl&&movB f cu):=fun b=>by
    unfold itemB;rw [if_neg hc0,decide_eq_true rfl,Bool.true_and];rfl
   rw [hit] at HIk HJk;have HFX:=Hd (fun W=>fixed_any fi fl W);have HMV:=Hd (fun W=>moving_any ⟨fi,fl,f,cu,rf⟩ W);simp only [dnVal] at HMV;clear hit;generalize fixB fi fl=b1 at *;generalize movB f cu=b2 at *;go_quiet (fail);have HBY:=Hd (below_drewN HB2.out nq);have HBZ:=Hd (below_drewN HBX.out nq);have k0':(wa.drewN nq).cell? (A 0)=some (fi:U):=k0;have k1':(wa.drewN nq).cell? (A 1)=some (fl:U):=k1;have k2':(wa.drewN nq).cell? (A 2)=some (f:U):=k2;have k3':(wa.drewN nq).cell? (A 3)=some (cu:U):=k3;have k4':(wa.drewN nq).cell? (A 4)=some (rf:U):=k4;have f0':(wa.drewN nq).cell? (w 0 0)=some (.slice (some (g of)) o.length oc):=f0;have fk':(wa.drewN nq).cell? ((w.heap.size+1+1) k)=some (rf:U):=fk;have hsA':A<(wa.drewN nq).heap.size:=hsA;clear k0 k1 k2 k3 k4 f0 fk hsA HB2 HBX;generalize wa.drewN nq=wb at *;go_wp2_with fail;refine (HFX.out _).mono ?_;rintro e w3 ⟨rfl,hb⟩;replace HBY:=Hd (HBY.out.trans (hb.mono HBY.out.size));replace HBZ:=Hd (HBZ.out.trans (hb.mono HBZ.out.size));have j0:=(hb.cell (p:=(A 0)) hsA').trans k0';have j1:=(hb.cell (p:=(A 1)) hsA').trans k1';have j2:=(hb.cell (p:=(A 2)) hsA').trans k2';have j3:=(hb.cell (p:=(A 3)) hsA').trans k3';have j4:=(hb.cell (p:=(A 4)) hsA').trans k4';clear hb;cases b1 with
   |false=>
    exact cl100
   |true=>
    go_wp2_with fail;refine (HMV.out _).mono ?_;rintro e w4 ⟨rfl,hb⟩;replace HBY:=Hd (HBY.out.trans (hb.mono HBY.out.size));replace HBZ:=Hd (HBZ.out.trans (hb.mono HBZ.out.size));clear hb;cases b2 with
    |false=>
     exact cl100
    |true=>
     have HV:=Hd HJk.out;rw [show (true&&true)=true from rfl] at HV;go_wp2_with fail;go_roundw
     case rel=>exact ⟨k+1,by omega,by go_num,HV,HBY.out⟩
     case measure=>simp [intOf];omega
 ·have HV:=Hd (HIk.out (by unfold itemB;rw [decide_eq_false hrf];rfl));exact cl101):p:=h
theorem km74 {p : Prop} (h:p:=by
 have HZ:Hid (itemsB x.pl 0=true):=rfl;have HPL:Hid (x.pl.o.length=x.o.length):=rfl;clear h;generalize checkV x.pl=cv at *;generalize itemsB x.pl=ib at *;generalize refC x.pl=C at *;unfold dVal at HRef ⊢;rw [HPL.out] at HRef;generalize refOK x.pl=rok at *;clear HPL;obtain ⟨oa,oc,o,ta,tc,t⟩:=x;simp only at HRef HD ho ht hcap hcapo HS HI HJ HB HL;go_enter Tryz.func127,Tryz.ntmps127;go_wp2_with fail;refine (HRef.out _ (Br.alloc Nr _)).mono ?_;rintro e w2 ⟨hb,hres⟩;have hp0:w2.cell? (w 0 0)=some (.slice oa o.length oc):=(hb.cell (p:=(w 0 0)) b11).trans b11;have hp1:w2.cell? (w 0 1)=some (.slice ta t.length tc):=(hb.cell (p:=(w 0 1)) b11).trans b11;have hsz:=hb.size;rw [show (w.alloc (Obj.cells #[.slice oa o.length oc,.slice ta t.length tc] 83)).heap.size=w.heap.size+1 from by simp] at hres hsz;have HBel:Hid (Below w w w2):=((Below.refl _ w).alloc Nr _).trans (hb.mono b11);clear HRef hb;rcases hres with ⟨hrok,rfl,hAt⟩|⟨hrok,rfl⟩
 ·rw [hrok] at HS HB;have HAt:=Hd hAt;clear hAt hrok;by_cases hl:1≤t.length∧t.length≤8∧o.length≤128
  ·obtain ⟨l1,l2,l3⟩:=hl;rw [Bool.true_and,decide_eq_true ⟨l1,l2,l3⟩,Bool.true_and] at HS;have l1':(1:Int)≤(t.length:Int):=b10;have l2':(t.length:Int)≤8:=b10;have l3':(o.length:Int)≤128:=b10;go_wp2_with fail;have HF:Hid (∀W,Below w2 w2 W→W.cell? (w 0 0)=some (.slice oa o.length oc)∧∀k,k<o.length→W.cell? ((w.heap.size+1+1) k)=some ((C.getD k 0):U)):=fun W hbW=>
    ⟨(hbW.cell (p:=(w 0 0)) (by show w.heap.size<w2.heap.size;omega)).trans hp0,fun k hk=>(hbW.cell (p:=((w.heap.size+1+1) k)) HAt.out.hi).trans (HAt.out.cell k _ (ints_at _ k (by rw [HL.out];exact hk)))⟩
   clear hp0 hp1 HAt;go_loopw [35] (fun v35 wr=>∃k:Nat,k≤o.length∧v35=.int .i64 k∧Hid (ib k=true)∧Hid (Below w2 w2 wr)) (fun v35 _=>300-(intOf v35).toNat)
   case atStart=>exact ⟨0,Nat.zero_le _,rfl,HZ,Below.refl _ _⟩
   case round=>
    obtain ⟨k,hk,rfl,HT,HW⟩:=hrel;have HBW:=Hd (HBel.out.trans (HW.out.mono HBel.out.size));by_cases hlt:k<o.length
    ·have hlt':(k:Int)<(o.length:Int):=b10;obtain ⟨g,of,rfl,_,_,hcel⟩:=HD.out wr HBW.out k hlt;generalize ha:o.getD k Dn.zero=a at hcel;have hdn:Hid (o.getD k Dn.zero=a):=ha;obtain ⟨fi,fl,f,cu,rf⟩:=a;obtain ⟨k0,k1,k2,k3,k4⟩:=hcel;simp only at k0 k1 k2 k3 k4;have hlw:w2.heap.size≤wr.heap.size:=HW.out.size;exact cm18
    ·obtain rfl:k=o.length:=b10;have HV:=HS.out.trans HT.out;replace HV:=Hd HV;go_wp2_with fail;go_ret;exact RetW.mk b24 HBW.out
  ·rw [Bool.true_and,decide_eq_false hl,Bool.false_and] at HS;have HN:=Hd hl;clear hl;go_wp2_with fail
   all_goals first|(exfalso;have:=HN.out;omega)|(go_ret;exact RetW.mk (by rw [HS.out];try rfl) HBel.out)
 ·rw [hrok] at HS;go_wp2_with fail;go_ret;exact RetW.mk (by rw [HS.out];rfl) HBel.out):p:=h
end Ami8
open Ami8 in
set_option maxHeartbeats 4000000 in
theorem check_any' (x:Dv) (w:World) (h:DIn w x) (ho:x.o.length≤10000) (ht:x.t.length≤1000):
 Calls Tryz.prog 127 #[dVal x] w (RetW (.bool (checkV x.pl)) w):=by
 have HRef:=Hd (fun W hb=>refs_any x W (h.below hb) ho ht);unfold RefsPost at HRef;have HD:=Hd h.descs;have hcap:=h.t.cap;have hcapo:=h.o.cap;have HS:Hid (checkV x.pl=(refOK x.pl&&decide (1≤x.t.length∧x.t.length≤8∧x.o.length≤128)&&itemsB x.pl x.o.length)):=by
  unfold Hid checkV;rw [show x.pl.t.length=x.t.length from List.length_map _];rfl
 have HI:Hid (∀k,k<x.o.length→itemB ((refC x.pl).getD k 0) (decide (k+1=x.o.length)) (x.o.getD k Dn.zero)=false→checkV x.pl=false):=fun k hk hh=>items_false (d:=x.pl) hk hh;have HJ:Hid (∀k,itemsB x.pl (k+1)=(itemsB x.pl k&&itemB ((refC x.pl).getD k 0) (decide (k+1=x.o.length)) (x.o.getD k Dn.zero))):=fun k=>items_succ x.pl k;exact cm74
end Go.Proofs.YtimhaidiclbnhaaGreat.Des
