import Derived.Test.YtimhaidiclbnhaaGreatP18
set_option linter.unusedSimpArgs false
set_option linter.unusedVariables false
set_option maxRecDepth 100000
open Go.ChangeShapes Go.WideShapes Go.ChangeAt Go.RowKit
namespace Go.Proofs.YtimhaidiclbnhaaGreat.Ver
open Des (At)
structure Res where
 er:Int
 n:Int
 dat:ByteArray
def resC (r:Res):List Value:=[r.er,r.n,.string r.dat]
def outerB (e:Int):Bool:=decide (e=10∨e=11∨50≤e)
theorem outer_any (e:Int) (W:World):Calls Tryz.prog 80 #[e] W (RetW (.bool (outerB e)) W):=by
 have HR:Hid (outerB e=decide (e=10∨e=11∨50≤e)):=Hd rfl;generalize outerB e=r at *;by_cases h1:e=10
 ·subst h1;go_enter Tryz.func80,Tryz.ntmps80;go_wp2_with fail;go_ret;exact RetW.mk (by rw [HR.out];simp) Br
 by_cases h2:e=11
 ·subst h2;go_enter Tryz.func80,Tryz.ntmps80;go_wp2_with fail;go_ret;exact RetW.mk (by rw [HR.out];simp) Br
 have e1:(e==10)=false:=by simpa using h1
 have e2:(e==11)=false:=by simpa using h2
 go_enter Tryz.func80,Tryz.ntmps80;go_wp2_with fail;go_ret;exact RetW.mk (by rw [HR.out];simp [h1,h2]) Br
def optB (k:Int):Bool:=[3,11,4,12,6,7].contains k
theorem opt_any (k:Int) (W:World):Calls Tryz.prog 79 #[k] W (RetW (.bool (optB k)) W):=by
 have HC:∀W':World,(∀j,j<6→W'.cell? (W 0 (0+j))=some ((([3,11,4,12,6,7]:List Int).getD j 0):U))→Calls Tryz.prog 115 #[.slice (some (W 0 0)) 6 6,k] W' fun e w'=>e=.returned (.bool (optB k))∧w'=W':=fun W' hc=>
  Tryz.slices_Contains_int W.heap.size 0 6 6 [3,11,4,12,6,7] k W' b14 b14 hc
 have HCC:=Hd HC;clear HC;generalize optB k=r at *;go_enter Tryz.func79,Tryz.ntmps79;go_wp2_with fail;refine (HCC.out _ ?_).mono ?_
 ·intro j hj;rcases j with _ | _ | _ | _ | _ | _ |j
  ·simp
  ·simp
  ·simp
  ·simp
  ·simp
  ·simp
  ·omega
 rintro e w' ⟨rfl,rfl⟩;go_wp2_with fail;go_ret;exact RetW.mk rfl (Br.alloc Nr _)
theorem bad_any (e:Int) (W:World):Calls Tryz.prog 86 #[e] W (RetW (.agg #[e,I,J,.nilFunc]) W):=by
 go_enter Tryz.func86,Tryz.ntmps86;go_wp2_with fail;refine bodyPost_ret (v:=.agg #[e,I,J,.nilFunc]) (by simp [results,Tryz.results86,go_sem]) rfl ?_;exact RetW.mk rfl (Br.alloc Nr _)
def resVal (r:Res):Value:=.agg #[r.er,r.n,.string r.dat]
def mk1 (k:Int) (w g:Res):Res:=if (optB k&&decide (w.er=0)&&outerB g.er)=true then ⟨g.er,0,⟨#[]⟩⟩ else w
def mk2 (k:Int) (w g:Res):Res:=if k=8∧w.er=0∧g.er=10 then ⟨10,w.n,w.dat⟩ else w
def cmpV (k:Int) (w g:Res):Int:=if g.er=w.er∧g.n=w.n∧g.dat=w.dat then 0 else if k=8∧g.er≠w.er then 3 else if g.er=w.er∧g.n=w.n then 1 else 2
def judgeV (k:Int) (w g:Res):Int:=cmpV k (mk2 k (mk1 k w g) g) g
structure Jd (W0 W:World) (K X Y:Nat) (k:Int) (w g:Res):Prop where
 bel:Below W0 W0 W
 k:W.cell? (K 0)=some (k:U)
 kh:K<W.heap.size
 w:At W X (resC w)
 g:At W Y (resC g)
 x0:W0.heap.size≤X
 xy:Y≠X
 kx:K≠X
theorem Jd.below {W0 W W':World} {K X Y:Nat} {k:Int} {w g:Res} (h:Jd W0 W K X Y k w g) (hb:Below W W W'):Jd W0 W' K X Y k w g:=
 ⟨h.bel.trans (hb.mono h.bel.size),(hb.cell (p:=(K 0)) h.kh).trans h.k,Nat.lt_of_lt_of_le h.kh hb.size,h.w.below hb h.w.hi,h.g.below hb h.g.hi,h.x0,h.xy,h.kx⟩
theorem Jd.put {W0 W:World} {K X Y:Nat} {k:Int} {w g:Res} (h:Jd W0 W K X Y k w g) (e n:Int) (d:ByteArray):Jd W0 (((W.setCell (X 0) e).setCell (X 1) n).setCell (X 2) (.string d)) K X Y k ⟨e,n,d⟩ g:=
 ⟨((h.bel.setCell (p:=(X 0)) h.x0 _).setCell (p:=(X 1)) h.x0 _).setCell (p:=(X 2)) h.x0 _,by
  rw [World.cell?_setCell_other,World.cell?_setCell_other,World.cell?_setCell_other]
  ·exact h.k
  ·intro e;exact h.kx (congrArg Addr.block e).symm
  ·intro e;exact h.kx (congrArg Addr.block e).symm
  ·intro e;exact h.kx (congrArg Addr.block e).symm,by simpa [World.setCell] using h.kh,((h.w.set 0 _).set 1 _).set 2 _,((h.g.setOther (x:=⟨X,0,none⟩) h.xy _).setOther (x:=⟨X,1,none⟩) h.xy _).setOther (x:=⟨X,2,none⟩) h.xy _,h.x0,h.xy,h.kx⟩
theorem Jd.put0 {W0 W:World} {K X Y:Nat} {k:Int} {w g:Res} (h:Jd W0 W K X Y k w g) (e:Int):Jd W0 (W.setCell (X 0) e) K X Y k ⟨e,w.n,w.dat⟩ g:=
 ⟨h.bel.setCell (p:=(X 0)) h.x0 _,by
  rw [World.cell?_setCell_other]
  ·exact h.k
  ·intro e;exact h.kx (congrArg Addr.block e).symm,by simpa [World.setCell] using h.kh,h.w.set 0 _,h.g.setOther (x:=⟨X,0,none⟩) h.xy _,h.x0,h.xy,h.kx⟩
theorem Jd.c {W0 W:World} {K X Y:Nat} {k:Int} {w g:Res} (h:Jd W0 W K X Y k w g):W.cell? (K 0)=some (k:U)∧W.cell? (X 0)=some (w.er:U)∧W.cell? (X 1)=some (w.n:U)∧W.cell? (X 2)=some (.string w.dat)∧W.cell? (Y 0)=some (g.er:U)∧W.cell? (Y 1)=some (g.n:U)∧W.cell? (Y 2)=some (.string g.dat)∧W.frozen? (X 0)=false∧W.frozen? (X 1)=false∧W.frozen? (X 2)=false:=
 ⟨h.k,h.w.cell 0 _ rfl,h.w.cell 1 _ rfl,h.w.cell 2 _ rfl,h.g.cell 0 _ rfl,h.g.cell 1 _ rfl,h.g.cell 2 _ rfl,h.w.free 0 (by simp [resC]),h.w.free 1 (by simp [resC]),h.w.free 2 (by simp [resC])⟩
set_option maxHeartbeats 8000000 in
theorem judge_any (o:Opr) (w g:Res) (W:World):
 Calls Tryz.prog 40 #[opVal o,resVal w,resVal g] W (RetW (.int .i64 (judgeV o.kd w g)) W):=by
 obtain ⟨k,o1,o2,o3,o4,o5,o6,o7,o8⟩:=o;obtain ⟨we,wn,wd⟩:=w;obtain ⟨ge,gn,gd⟩:=g;have HO:Hid (∀W',Calls Tryz.prog 79 #[k] W' (RetW (.bool (optB k)) W')):=Hd (opt_any k);have HU:Hid (∀W',Calls Tryz.prog 80 #[ge] W' (RetW (.bool (outerB ge)) W')):=Hd (outer_any ge);have HJ:Hid (judgeV k ⟨we,wn,wd⟩ ⟨ge,gn,gd⟩=cmpV k (mk2 k (if (optB k&&decide (we=0)&&outerB ge)=true then ⟨ge,0,⟨#[]⟩⟩ else ⟨we,wn,wd⟩) ⟨ge,gn,gd⟩) ⟨ge,gn,gd⟩):=Hd rfl;show Calls Tryz.prog 40 #[.agg #[k,o1,o2,o3,o4,o5,o6,.string o7,.bool o8],.agg #[we,wn,.string wd],.agg #[ge,gn,.string gd]] W (RetW (.int .i64 (judgeV k ⟨we,wn,wd⟩ ⟨ge,gn,gd⟩)) W);generalize judgeV k ⟨we,wn,wd⟩ ⟨ge,gn,gd⟩=r at *;generalize optB k=ob at *;generalize outerB ge=ub at *;go_enter Tryz.func40,Tryz.ntmps40;go_upto_region 1 with (fail)
 generalize hW1:(((W.alloc (Obj.cells #[k,o1,o2,o3,o4,o5,o6,.string o7,.bool o8] 66)).alloc (Obj.cells #[we,wn,.string wd] 62)).alloc (Obj.cells #[ge,gn,.string gd] 62))=W1 at *;have HD:Hid (Jd W W1 W.heap.size (W.heap.size+1) (W.heap.size+1+1) k ⟨we,wn,wd⟩ ⟨ge,gn,gd⟩):=by
  rw [←hW1];refine ⟨((Br.alloc Nr _).alloc b11 _).alloc b16 _,by rw [World.cell?_alloc_lt _ _ _ (by rw [Des.alloc_size,Des.alloc_size];show W.heap.size< _;omega),World.cell?_alloc_lt _ _ _ (by rw [Des.alloc_size];show W.heap.size< _;omega)];simp,by rw [Des.alloc_size,Des.alloc_size,Des.alloc_size];omega,?_,?_,by omega,by omega,by omega⟩
  ·refine At.alloc ?_ _;exact (At.new (W.alloc (Obj.cells #[k,o1,o2,o3,o4,o5,o6,.string o7,.bool o8] 66)) [we,wn,.string wd] 62).cast b11
  ·exact (At.new ((W.alloc (Obj.cells #[k,o1,o2,o3,o4,o5,o6,.string o7,.bool o8] 66)).alloc (Obj.cells #[we,wn,.string wd] 62)) [ge,gn,.string gd] 62).cast b11
 clear hW1;generalize W.heap.size+1+1=Y at *;generalize W.heap.size+1=X at *;go_cut [19] (fun v wx=>v=.bool (ob&&decide (we=0)&&ub)∧Hid (Jd W wx W.heap.size X Y k ⟨we,wn,wd⟩ ⟨ge,gn,gd⟩))
 case first=>
  obtain ⟨c0,c1,c2,c3,c4,c5,c6,c7,c8,c9⟩:=HD.out.c;go_wp2_with fail;refine (HO.out _).mono ?_;rintro e w1 ⟨rfl,hb⟩;replace HD:=Hd (HD.out.below hb);clear hb c0 c1 c2 c3 c4 c5 c6 c7 c8 c9;obtain ⟨c0,c1,c2,c3,c4,c5,c6,c7,c8,c9⟩:=HD.out.c;cases ob with
  |false=>
   go_wp2_with fail;go_meet;exact ⟨rfl,HD⟩
  |true=>
   by_cases hw:we=0
   ·subst hw;go_wp2_with fail;refine (HU.out _).mono ?_;rintro e w2 ⟨rfl,hb⟩;replace HD:=Hd (HD.out.below hb);clear hb c0 c1 c2 c3 c4 c5 c6 c7 c8 c9;go_wp2_with fail;go_meet;exact ⟨by simp,HD⟩
   ·have hz:(we==0)=false:=by simpa using hw
    go_wp2_with fail;go_meet;exact ⟨by simp [hw],HD⟩
 case rest=>
 clear HD;obtain ⟨rfl,HD⟩:=hcut;generalize hcc:(ob&&decide (we=0)&&ub)=cc at *;clear hcc;go_upto_if 19 with (fail)
 go_cut [6] (fun v wx=>v=.int .i64 0∧∃v1:Res,v1=(if cc=true then ⟨ge,0,⟨#[]⟩⟩ else ⟨we,wn,wd⟩)∧Hid (Jd W wx W.heap.size X Y k v1 ⟨ge,gn,gd⟩))
 case first=>
  obtain ⟨c0,c1,c2,c3,c4,c5,c6,c7,c8,c9⟩:=HD.out.c;cases cc with
  |false=>
   go_wp2_with fail;go_meet;exact ⟨rfl,_,rfl,HD⟩
  |true=>
   have HP:=Hd (HD.out.put ge 0 ⟨#[]⟩);go_wp2_with fail;go_meet;exact ⟨rfl,_,rfl,HP⟩
 case rest=>
 clear HD;obtain ⟨rfl,v1,hv1,HD⟩:=hcut;rw [←hv1] at HJ;clear hv1 HO HU;obtain ⟨we,wn,wd⟩:=v1;go_upto_region 3 with (fail)
 go_cut [35] (fun v wx=>v=.bool (decide (k=8∧we=0∧ge=10))∧Hid (Jd W wx W.heap.size X Y k ⟨we,wn,wd⟩ ⟨ge,gn,gd⟩))
 case first=>
  obtain ⟨c0,c1,c2,c3,c4,c5,c6,c7,c8,c9⟩:=HD.out.c;by_cases h1:k=8
  ·subst h1;by_cases h2:we=0
   ·subst h2;go_wp2_with fail;go_meet;exact ⟨by by_cases h3:ge=10<;>simp [h3],HD⟩
   ·have h2':(we==0)=false:=by simpa using h2
    go_wp2_with fail;go_meet;exact ⟨by simp [h2],HD⟩
  ·have h1':(k==8)=false:=by simpa using h1
   go_wp2_with fail;go_meet;exact ⟨by simp [h1],HD⟩
 case rest=>
 clear HD;obtain ⟨rfl,HD⟩:=hcut;go_upto_if 35 with (fail)
 go_cut [6] (fun v wx=>v=.int .i64 0∧∃v1:Res,v1=mk2 k ⟨we,wn,wd⟩ ⟨ge,gn,gd⟩∧Hid (Jd W wx W.heap.size X Y k v1 ⟨ge,gn,gd⟩))
 case first=>
  obtain ⟨c0,c1,c2,c3,c4,c5,c6,c7,c8,c9⟩:=HD.out.c;by_cases h1:k=8∧we=0∧ge=10
  ·have HP:=Hd (HD.out.put0 10);have hd:decide (k=8∧we=0∧ge=10)=true:=decide_eq_true h1;rw [hd];have H1:=Hd h1;clear h1 hd;go_wp2_with fail;go_meet;exact ⟨rfl,_,by unfold mk2;rw [if_pos H1.out],HP⟩
  ·have hd:decide (k=8∧we=0∧ge=10)=false:=decide_eq_false h1;rw [hd];have H1:=Hd h1;clear h1 hd;go_wp2_with fail;go_meet;exact ⟨rfl,_,by unfold mk2;rw [if_neg H1.out],HD⟩
 case rest=>
 clear HD;obtain ⟨rfl,v1,hv1,HD⟩:=hcut;rw [←hv1] at HJ;clear hv1;obtain ⟨we,wn,wd⟩:=v1;obtain ⟨c0,c1,c2,c3,c4,c5,c6,c7,c8,c9⟩:=HD.out.c;have HB:=Hd HD.out.bel;clear HD;have HJ2:Hid (r=if ge=we∧gn=wn∧gd=wd then 0 else if k=8∧ge≠we then 3 else if ge=we∧gn=wn then 1 else 2):=HJ;clear HJ;by_cases h1:ge=we
 ·subst h1;by_cases h2:gn=wn
  ·subst h2;by_cases h3:gd=wd
   ·subst h3;have HR:r=0:=(by have:=HJ2.out;simpa using this)
    subst HR;clear HJ2;go_wp2_with fail;go_ret;exact RetW.mk rfl HB.out
   ·have HR:r=1:=(by have:=HJ2.out;simpa [h3] using this)
    subst HR; clear HJ2; have HN := Hd h3; have h3a : ¬ gd.toList = wd.toList := fun e => h3 (by
     rw [ByteArray.toList_eq,ByteArray.toList_eq] at e;cases gd;cases wd;simp_all [Array.toList_inj])
    clear h3;by_cases h4:k=8
    ·subst h4;go_wp2_with fail;go_ret;exact RetW.mk rfl HB.out
    ·exact cl85
  ·have HR:r=2:=(by have:=HJ2.out;simpa [h2] using this)
   subst HR;have h2':(gn==wn)=false:=by simpa using h2
   clear HJ2;by_cases h4:k=8
   ·subst h4;go_wp2_with fail;go_ret;exact RetW.mk rfl HB.out
   ·exact cl85
 ·have h1':(ge==we)=false:=by simpa using h1
  by_cases h4:k=8
  ·subst h4;have HR:r=3:=(by have:=HJ2.out;simpa [h1] using this)
   subst HR;clear HJ2;go_wp2_with fail;go_ret;exact RetW.mk rfl HB.out
  ·have HR:r=2:=(by have:=HJ2.out;simpa [h1,h4] using this)
   subst HR;clear HJ2;exact cl85
open Des (Dv De Dn DIn DBlk DAns Vi At RowOf ints DSz numE numV lookV)
def stepC (M:Nat) (p:Int) (o:Opr) (x:Ev):List Value:=
 [.pointer (some (M 0)),p,o.kd,o.fd,o.fi,o.fl,o.off,o.len,o.pg,.string o.dat,.bool o.wr,x.tm,x.pr,x.ix,x.fi,x.at',x.bg,x.er,x.n,.string x.dat]
def stepV (M:Nat) (p:Int) (o:Opr) (x:Ev):Value:=.agg (stepC M p o x).toArray
structure Bx2 (W0 W:World) (T R:Nat) (cs rs:List Value):Prop where
 bel:Below W0 W0 W
 t:At W T cs
 r:At W R rs
 lo:W0.heap.size≤T
 tr:T<R
theorem Bx2.start (W:World) (cs rs:List Value) (ct rt:TypeId):Bx2 W ((W.alloc (.cells cs.toArray ct)).alloc (.cells rs.toArray rt)) W.heap.size (W.heap.size+1) cs rs:=
 ⟨((Below.refl W W).alloc Nr _).alloc b37 _,(At.new W cs ct).alloc _,(At.new (W.alloc (.cells cs.toArray ct)) rs rt).cast b57,Nat.le_refl _,by omega⟩
theorem Bx2.below {W0 W W':World} {T R:Nat} {cs rs:List Value} (h:Bx2 W0 W T R cs rs) (hb:Below W W W'):Bx2 W0 W' T R cs rs:=
 ⟨h.bel.trans (hb.mono h.bel.size),h.t.below hb h.t.hi,h.r.below hb h.r.hi,h.lo,h.tr⟩
theorem below_setCells {B b:Nat} {a w:World} (h:Below B a w) (hb:B≤b) (vs:List Value) (o:Nat):Below B a (w.setCells b o vs):=Des.below_cells hb vs o h
theorem Bx2.putR {W0 W:World} {T R:Nat} {cs rs:List Value} (h:Bx2 W0 W T R cs rs) (vs:List Value) (hl:vs.length=rs.length):Bx2 W0 (W.setCells R 0 vs) T R cs vs:=
 ⟨below_setCells h.bel (by have:=h.lo;have:=h.tr;omega) vs 0,h.t.apart (by have:=h.tr;omega) 0 vs,h.r.store vs hl,h.lo,h.tr⟩
structure Nb (W0 W:World) (D:Nat) (vs:List Value):Prop where
 at':At W D vs
 bel:Below W0 W0 W
 lo:W0.heap.size≤D
theorem Nb.below {W0 W W':World} {D:Nat} {vs:List Value} (h:Nb W0 W D vs) (hb:Below W W W'):Nb W0 W' D vs:=
 ⟨h.at'.below hb h.at'.hi,h.bel.trans (hb.mono h.bel.size),h.lo⟩
theorem Nb.after {W0 w2:World} (hb:Below W0 W0 w2) (vs:List Value) (T:TypeId):Nb W0 (w2.alloc (.cells vs.toArray T)) w2.heap.size vs:=
 ⟨At.new w2 vs T,hb.alloc hb.size _,hb.size⟩
theorem Nb.before {W0 w2:World} {zs:List Value} {T:TypeId} (hb:Below (W0.alloc (.cells zs.toArray T)).heap.size (W0.alloc (.cells zs.toArray T)) w2) (vs:List Value) (hl:vs.length=zs.length):Nb W0 (w2.setCells W0.heap.size 0 vs) W0.heap.size vs:=
 ⟨((At.new W0 zs T).below hb b37).store vs hl,below_setCells ((Br.alloc Nr _).trans (hb.mono b37)) Nr vs 0,Nat.le_refl _⟩
def andV (a b:Int):Int:=bits BinOp.and IntKind.i64 a b
def lkE (s:St) (p f m:Int):Int:=if numE s.d p f≠0 then numE s.d p f else if (s.fs.length:Int)≤(lookV s.d p f).fi then 4 else if andV (lookV s.d p f).fl m≠m then 13 else 0
def dnL (a:Dn):List Value:=[a.fi,a.fl,a.f,a.cu,a.rf]
theorem Mg.dz {B:Nat} {W:World} {l:Ly} {s:St} (h:Mm B W l s) (hr:Des.Rt s.d):DSz l.x:=(Des.check_sz (Des.rt_check hr)).sz h.im.dp
section
variable {B:Nat} {W:World} {l:Ly} {s:St}
theorem Mg.cO (h:Mm B W l s):W.cell? (l.M 24)=some (.slice l.x.oa l.x.o.length l.x.oc)∧W.cell? (l.M 25)=some (.slice l.x.ta l.x.t.length l.x.tc):=⟨h.m.cell 24 _ rfl,h.m.cell 25 _ rfl⟩
theorem Mg.cF (h:Mm B W l s):W.cell? (l.M 21)=some (.slice (some (l.F 0)) s.fs.length s.fs.length):=h.m.cell 21 _ rfl
theorem Mg.cA (h:Mm B W l s):W.cell? (l.M 22)=some (.slice (some (l.A 0)) s.fs.length s.fs.length):=h.m.cell 22 _ rfl
theorem Mg.cL (h:Mm B W l s):W.cell? (l.M 23)=some (.slice (some (l.L 0)) s.fs.length s.fs.length):=h.m.cell 23 _ rfl
theorem Mg.cR (h:Mm B W l s):W.cell? (l.M 26)=some (.slice (some (l.R 0)) s.scr.length s.scr.length):=h.m.cell 26 _ rfl
theorem Mg.cH (h:Mm B W l s):W.cell? (l.M 27)=some (.slice (some (l.H 0)) s.fs.length s.fs.length):=h.m.cell 27 _ rfl
theorem Mg.cS (h:Mm B W l s):W.cell? (l.M 28)=some (.slice (some (l.S 0)) s.fs.length s.fs.length):=h.m.cell 28 _ rfl
theorem Mg.cN (h:Mm B W l s):W.cell? (l.M 29)=some (.slice (some (l.N 0)) s.scr.length s.scr.length):=h.m.cell 29 _ rfl
theorem Mg.cB (h:Mm B W l s):W.cell? (l.M 30)=some (.slice (some (l.B 0)) s.scr.length s.scr.length):=h.m.cell 30 _ rfl
theorem Mg.cT (h:Mm B W l s):W.cell? (l.M 31)=some (s.tm:U):=h.m.cell 31 _ rfl
end
namespace A082
theorem km23 {p : Prop} (h:p:=by
 exact cm55):p:=h
theorem km55 {p : Prop} (h:p:=by
 go_region_held3 (fun w'=>w'.cell? (W 0 0)=some (.pointer (some (l.M 0)))∧w'.cell? (W 0 1)=some (p:U)∧w'.cell? (W 0 3)=some (o.fd:U)∧w'.cell? (l.M 24)=some (.slice l.x.oa l.x.o.length l.x.oc)∧w'.cell? (l.M 25)=some (.slice l.x.ta l.x.t.length l.x.tc)) (go_keep) (first|(go_at_call 123;refine (HLK.out _ b32).mono ?_;rintro e w2 ⟨rfl,hb⟩;(first|(have HA:=Hd hb;replace HX:=Hd (HX.out.below hb))|(have HB:=Hd hb;obtain ⟨_,⟨f0,f1,f2,f3,f4⟩,fh⟩:=Des.At.five (((At.new W1 [I,I,I,I,I] 126).drew).below hb b38);replace HX:=Hd ((HX.out.below (Br.alloc Nr _)).below hb)));clear hb t0 t1 t3 mO mP;have t0:=HX.out.t.cell 0 (.pointer (some (l.M 0))) b13;have t1:=HX.out.t.cell 1 (.int .i64 p) b13;have t3:=HX.out.t.cell 3 (.int .i64 o.fd) b13;obtain ⟨mO,mP⟩:=(HM.out.below HX.out.bel).cO))
 all_goals
  go_wp2_with fail;go_meet;first|exact ⟨_,rfl,rfl,rfl,Hd (Nb.after ((Below.refl W1 W1).drew.trans HA.out) [D.fi,D.fl,D.f,D.cu,D.rf] 126)⟩|exact ⟨_,rfl,rfl,rfl,Hd (Nb.before (T:=126) (zs:=[I,I,I,I,I]) ((Below.refl (W1.alloc _).heap.size (W1.alloc _)).drew.trans HB.out) [D.fi,D.fl,D.f,D.cu,D.rf] rfl)⟩):p:=h
end A082
open A082 in
set_option maxHeartbeats 8000000 in
theorem lookup_any' (B:Nat) (l:Ly) (s:St) (p:Int) (o:Opr) (x:Ev) (m:Int) (W:World) (h:Mm B W l s) (hr:Des.Rt s.d) (hn:s.fs.length≤1000):
 Calls Tryz.prog 91 #[stepV l.M p o x,m] W (RetW (.tuple #[(numV s.d p o.fd),.agg #[(lookV s.d p o.fd).fi,(lookV s.d p o.fd).fl,(lookV s.d p o.fd).f,(lookV s.d p o.fd).cu,(lookV s.d p o.fd).rf],(lkE s p o.fd m)]) W):=by
 have HLK:Hid (∀W',Below W W W'→Calls Tryz.prog 123 #[.agg #[.slice l.x.oa l.x.o.length l.x.oc,.slice l.x.ta l.x.t.length l.x.tc],p,o.fd] W' (RetW (.tuple #[(numV s.d p o.fd),.agg #[(lookV s.d p o.fd).fi,(lookV s.d p o.fd).fl,(lookV s.d p o.fd).f,(lookV s.d p o.fd).cu,(lookV s.d p o.fd).rf],(numE s.d p o.fd)]) W')):=Hd fun W' hb=>by
  have h1:=Des.lookup_any l.x p o.fd W' (h.below hb).im.di.di (h.dz hr);rw [h.im.dp] at h1;exact h1
 have HM:=Hd h;have HE:Hid (lkE s p o.fd m=if numE s.d p o.fd≠0 then numE s.d p o.fd else if (s.fs.length:Int)≤(lookV s.d p o.fd).fi then 4 else if andV (lookV s.d p o.fd).fl m≠m then 13 else 0):=Hd rfl;have HX:=Hd (Bx2.start W (stepC l.M p o x) [I,I,I,I,I] 122 126);unfold stepV;obtain ⟨cs,hcs⟩:∃cs,cs=stepC l.M p o x:=⟨_,rfl⟩
 have HCS:=Hd hcs;rw [←hcs] at HX ⊢;clear hcs h;generalize lkE s p o.fd m=le at *;generalize numE s.d p o.fd=ne at *;generalize numV s.d p o.fd=nv at *;generalize lookV s.d p o.fd=D at *;go_enter Tryz.func91,Tryz.ntmps91;go_upto_region 1 with (fail)
 generalize World.alloc _ (Obj.cells #[I,I,I,I,I] 126)=W1 at *;have HR1:Hid (W.heap.size+1<W1.heap.size):=Hd HX.out.r.hi;go_cut [7,8,9] (fun s7 s8 s9 wx=>∃K,s7=.int .i64 nv∧s8=.pointer (some ⟨K,0,none⟩)∧s9=.int .i64 ne∧Hid (Nb W1 wx K [D.fi,D.fl,D.f,D.cu,D.rf]))
 case first=>
  exact cm23
 case rest=>
 obtain ⟨K,rfl,rfl,rfl,HN⟩:=hcut;replace HX:=Hd (HX.out.below HN.out.bel);go_upto_region 2 with (fail)
 go_cut [37] (fun v wx=>v=.bool (decide (ne=0∧(s.fs.length:Int)≤D.fi))∧Hid (Nb W1 wx K [D.fi,D.fl,D.f,D.cu,D.rf])∧Hid (Bx2 W wx W.heap.size (W.heap.size+1) cs [I,I,I,I,I]))
 case first=>
  obtain ⟨⟨n0,n1,n2,n3,n4⟩,_,_⟩:=Des.At.five HN.out.at';have t0:=HX.out.t.cell 0 (.pointer (some (l.M 0))) b13;have mF:=(HM.out.below HX.out.bel).cF;by_cases hz:ne=0
  ·subst hz;by_cases hf:(s.fs.length:Int)≤D.fi
   ·exact cl83
   ·exact cl83
  ·have hz':(ne==0)=false:=by simpa using hz
   go_wp2_with fail;go_quiet (fail);go_wp2_with fail;go_meet;exact ⟨by simp [hz],Hd (HN.out.below (below_drewN Br nq)),Hd (HX.out.below (below_drewN Br nq))⟩
 case rest=>
 clear HN HX;obtain ⟨rfl,HN,HX⟩:=hcut;go_upto_if 37 with (fail)
 by_cases hz:ne=0
 ·subst hz;by_cases hf:(s.fs.length:Int)≤D.fi
  ·have hd:decide ((0:Int)=0∧(s.fs.length:Int)≤D.fi)=true:=by simp [hf]
   rw [hd];have hle:le=4:=by rw [HE.out];rw [if_neg b11,if_pos hf]
   subst hle;clear HE HLK;obtain ⟨⟨n0,n1,n2,n3,n4⟩,_,nh⟩:=Des.At.five HN.out.at';obtain ⟨_,⟨r0,r1,r2,r3,r4⟩,rh⟩:=Des.At.five HX.out.r;have hk1:¬K=W.heap.size+1:=by have:=HN.out.lo;have:=HR1.out;omega
   have hk2:¬W.heap.size+1=K:=b10;go_wp2_with fail;go_region;go_wp2_with fail;generalize hwB:World.drew _=w9 at *;have HP:Bx2 W w9 W.heap.size (W.heap.size+1) cs [D.fi,D.fl,D.f,D.cu,D.rf]:=by rw [←hwB];exact (HX.out.putR [D.fi,D.fl,D.f,D.cu,D.rf] rfl).below Br.drew
   clear hwB r0 r1 r2 r3 r4 n0 n1 n2 n3 n4;obtain ⟨⟨q0,q1,q2,q3,q4⟩,_,_⟩:=Des.At.five HP.r;exact bodyPost_ret (v:=.tuple #[nv,.agg #[D.fi,D.fl,D.f,D.cu,D.rf],(4:Int)]) b94 rfl (RetW.mk rfl HP.bel)
  ·have hd:decide ((0:Int)=0∧(s.fs.length:Int)≤D.fi)=false:=by simp [hf]
   rw [hd];by_cases ha:andV D.fl m=m
   ·have ha1:bits BinOp.and IntKind.i64 D.fl m=m:=ha;have hle:le=0:=by rw [HE.out];rw [if_neg b11,if_neg hf,if_neg (by simp [ha])]
    subst hle;clear HE HLK;obtain ⟨⟨n0,n1,n2,n3,n4⟩,_,nh⟩:=Des.At.five HN.out.at';obtain ⟨_,⟨r0,r1,r2,r3,r4⟩,rh⟩:=Des.At.five HX.out.r;have hk1:¬K=W.heap.size+1:=by have:=HN.out.lo;have:=HR1.out;omega
    have hk2:¬W.heap.size+1=K:=b10;go_wp2_with fail;go_region;go_wp2_with fail;generalize hwB:World.drew _=w9 at *;have HP:Bx2 W w9 W.heap.size (W.heap.size+1) cs [D.fi,D.fl,D.f,D.cu,D.rf]:=by rw [←hwB];exact (HX.out.putR [D.fi,D.fl,D.f,D.cu,D.rf] rfl).below Br.drew
    clear hwB r0 r1 r2 r3 r4 n0 n1 n2 n3 n4;obtain ⟨⟨q0,q1,q2,q3,q4⟩,_,_⟩:=Des.At.five HP.r;exact bodyPost_ret (v:=.tuple #[nv,.agg #[D.fi,D.fl,D.f,D.cu,D.rf],I]) b94 rfl (RetW.mk rfl HP.bel)
   ·have ha1:¬bits BinOp.and IntKind.i64 D.fl m=m:=ha;have ha2:(bits BinOp.and IntKind.i64 D.fl m==m)=false:=by simpa using ha1
    have hle:le=13:=by rw [HE.out];rw [if_neg b11,if_neg hf,if_pos ha]
    subst hle;clear HE HLK;obtain ⟨⟨n0,n1,n2,n3,n4⟩,_,nh⟩:=Des.At.five HN.out.at';obtain ⟨_,⟨r0,r1,r2,r3,r4⟩,rh⟩:=Des.At.five HX.out.r;have hk1:¬K=W.heap.size+1:=by have:=HN.out.lo;have:=HR1.out;omega
    have hk2:¬W.heap.size+1=K:=b10;go_wp2_with fail;go_region;go_wp2_with fail;generalize hwB:World.drew _=w9 at *;have HP:Bx2 W w9 W.heap.size (W.heap.size+1) cs [D.fi,D.fl,D.f,D.cu,D.rf]:=by rw [←hwB];exact (HX.out.putR [D.fi,D.fl,D.f,D.cu,D.rf] rfl).below Br.drew
    clear hwB r0 r1 r2 r3 r4 n0 n1 n2 n3 n4;obtain ⟨⟨q0,q1,q2,q3,q4⟩,_,_⟩:=Des.At.five HP.r;exact bodyPost_ret (v:=.tuple #[nv,.agg #[D.fi,D.fl,D.f,D.cu,D.rf],(13:Int)]) b94 rfl (RetW.mk rfl HP.bel)
 ·have hd:decide (ne=0∧(s.fs.length:Int)≤D.fi)=false:=by simp [hz]
  rw [hd];have hz':(ne==0)=false:=by simpa using hz
  have hle:le=ne:=by rw [HE.out];rw [if_pos hz]
  subst hle;clear HE HLK;obtain ⟨⟨n0,n1,n2,n3,n4⟩,_,nh⟩:=Des.At.five HN.out.at';obtain ⟨_,⟨r0,r1,r2,r3,r4⟩,rh⟩:=Des.At.five HX.out.r;have hk1:¬K=W.heap.size+1:=by have:=HN.out.lo;have:=HR1.out;omega
  have hk2:¬W.heap.size+1=K:=b10;go_wp2_with fail;go_region;go_wp2_with fail;generalize hwB:World.drew _=w9 at *;have HP:Bx2 W w9 W.heap.size (W.heap.size+1) cs [D.fi,D.fl,D.f,D.cu,D.rf]:=by rw [←hwB];exact (HX.out.putR [D.fi,D.fl,D.f,D.cu,D.rf] rfl).below Br.drew
  clear hwB r0 r1 r2 r3 r4 n0 n1 n2 n3 n4;obtain ⟨⟨q0,q1,q2,q3,q4⟩,_,_⟩:=Des.At.five HP.r;exact bodyPost_ret (v:=.tuple #[nv,.agg #[D.fi,D.fl,D.f,D.cu,D.rf],le]) b94 rfl (RetW.mk rfl HP.bel)
end Go.Proofs.YtimhaidiclbnhaaGreat.Ver
