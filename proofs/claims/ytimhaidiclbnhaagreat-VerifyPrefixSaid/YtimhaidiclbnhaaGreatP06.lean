import Derived.Test.YtimhaidiclbnhaaGreatP04
import Derived.Test.YtimhaidiclbnhaaGreatP05
set_option linter.unusedSimpArgs false
set_option linter.unusedVariables false
set_option maxRecDepth 100000
open Go.ChangeShapes Go.WideShapes Go.ChangeAt Go.RowKit
namespace Go.Proofs.YtimhaidiclbnhaaGreat.Des
structure DSz (x:Dv):Prop where
 o:x.o.length≤10000
 t:x.t.length≤1000
 e:∀y∈x.t,y.l.length≤10000
def procV (d:De) (p:Int):Int:=if checkV d=false then 1 else if p<0∨(d.t.length:Int)≤p then 2 else 0
theorem procV_ok {d:De} {p:Int} (h:procV d p=0):checkV d=true∧0≤p∧p<(d.t.length:Int):=by
 unfold procV at h;cases hc:checkV d
 ·rw [if_pos hc] at h;cases h
 ·rw [if_neg b40] at h;by_cases hp:p<0∨(d.t.length:Int)≤p
  ·rw [if_pos hp] at h;cases h
  ·exact ⟨rfl,by omega,by omega⟩
theorem pl_t (x:Dv):x.pl.t.length=x.t.length:=List.length_map _
set_option maxHeartbeats 2000000 in
theorem process_any (x:Dv) (p:Int) (w:World) (h:DIn w x) (hz:DSz x):
 Calls Tryz.prog 117 #[dVal x,p] w (RetW (.int .i64 (procV x.pl p)) w):=by
 have HC:=Hd (fun W hb=>check_any' x W (h.below hb) hz.o hz.t);have HV:Hid (procV x.pl p=if checkV x.pl=false then 1 else if p<0∨(x.t.length:Int)≤p then 2 else 0):=by unfold procV;rw [pl_t];rfl
 clear h hz;generalize checkV x.pl=cv at *;generalize procV x.pl p=pv at *;unfold dVal at HC ⊢;obtain ⟨oa,oc,o,ta,tc,t⟩:=x;simp only at HC HV;go_enter Tryz.func117,Tryz.ntmps117;go_wp2_with fail;refine (HC.out _ (Br.alloc Nr _)).mono ?_;rintro e w2 ⟨rfl,hb⟩;have hp0:w2.cell? (w 0 0)=some (.slice oa o.length oc):=(hb.cell (p:=(w 0 0)) b11).trans b11;have hp1:w2.cell? (w 0 1)=some (.slice ta t.length tc):=(hb.cell (p:=(w 0 1)) b11).trans b11;have HB:Hid (Below w w w2):=((Below.refl _ w).alloc Nr _).trans (hb.mono b11);clear hb HC;cases cv with
 |false=>
  have HV2:Hid (pv=1):=HV.out;go_wp2_with fail;go_ret;exact RetW.mk (by rw [HV2.out];try rfl) HB.out
 |true=>
  by_cases hp:p<0∨(t.length:Int)≤p
  ·have HV2:Hid (pv=2):=by have:=HV.out;rw [if_neg b11,if_pos hp] at this;exact this
   have HP:=Hd hp;clear hp HV;go_wp2_with fail
   all_goals first|(exfalso;have:=HP.out;omega)|(go_ret;exact RetW.mk (by rw [HV2.out];try rfl) HB.out)
  ·have HV2:Hid (pv=0):=by have:=HV.out;rw [if_neg b11,if_neg hp] at this;exact this
   have h1:0≤p:=b10;have h2:p<(t.length:Int):=b10;clear hp HV;go_wp2_with fail;go_ret;exact RetW.mk (by rw [HV2.out];try rfl) HB.out
def tabAt (d:De) (p:Int):List Int:=d.t.getD p.toNat []
def entAt (d:De) (p f:Int):Int:=(tabAt d p).getD f.toNat 0
def numE (d:De) (p f:Int):Int:=if procV d p≠0 then procV d p else if f<0∨16≤f∨entAt d p f=0 then 4 else 0
def numV (d:De) (p f:Int):Int:=if numE d p f=0 then entAt d p f-1 else 0
theorem check_tab {d:De} (h:checkV d=true) (i:Nat) (hi:i<d.t.length):(d.t.getD i []).length=16∧∀j,j<16→0≤(d.t.getD i []).getD j 0∧(d.t.getD i []).getD j 0≤d.o.length:=by
 unfold checkV at h;rw [Bool.and_eq_true,Bool.and_eq_true] at h;have h1:tabB d.o.length (d.t.getD i [])=true:=by
  rw [getD_get hi];exact List.all_eq_true.1 h.1.1 _ (List.getElem_mem hi)
 generalize d.t.getD i []=l at *;unfold tabB at h1;rw [Bool.and_eq_true] at h1;have h2:=of_decide_eq_true h1.1;refine ⟨h2,fun j hj=>?_⟩;have:=List.all_eq_true.1 h1.2 (l.getD j 0) (by rw [getD_get b10];exact List.getElem_mem _);exact of_decide_eq_true this
theorem check_len {d:De} (h:checkV d=true):1≤d.t.length∧d.t.length≤8∧d.o.length≤128:=by
 unfold checkV at h;rw [Bool.and_eq_true,Bool.and_eq_true] at h;exact of_decide_eq_true h.1.2
namespace Ak54
theorem km68 {p : Prop} (h:p:=by
 have hol:=hz.o;clear h hz;generalize procV x.pl p=pv at *;generalize numE x.pl p f=ne at *;generalize numV x.pl p f=nv at *;generalize tabAt x.pl p=T at *;unfold dVal at HC ⊢;obtain ⟨oa,oc,o,ta,tc,t⟩:=x;simp only at HC HR HOK hol;go_enter Tryz.func122,Tryz.ntmps122;go_wp2_with fail;refine (HC.out _ (Br.alloc Nr _)).mono ?_;rintro e w2 ⟨rfl,hb⟩;have hp1:w2.cell? (w 0 1)=some (.slice ta t.length tc):=(hb.cell (p:=(w 0 1)) b11).trans b11;have HB:Hid (Below w w w2):=((Below.refl _ w).alloc Nr _).trans (hb.mono b11);clear hb HC;by_cases hpv:pv=0
 ·subst hpv;obtain ⟨q0,q1,q2,q3,q4⟩:=HOK.out rfl;obtain ⟨k,rfl⟩:∃k:Nat,p=(k:Int):=⟨p.toNat,by omega⟩
  rw [Int.toNat_natCast] at q3;obtain ⟨g,of,rfl,e1,e2,e3,e4⟩:=HR.out w2 HB.out k b10;rw [if_neg b11] at HE;have Q2:=Hd q2;have Q4:=Hd q4;clear HR HOK q2 q4;subst q3;generalize t.getD k Tb.nil=y at *;obtain ⟨ya,yc,yl⟩:=y;simp only at HE HN Q2 Q4 e3 e4;have hyl:(yl.length:Int)=16:=by rw [Q2.out];rfl
  by_cases hf:f<0∨16≤f
  ·have HE2:Hid (ne=4):=by have:=HE.out;rw [if_pos b10] at this;exact this
   have HN2:Hid (nv=0):=by have:=HN.out;rw [if_neg b54] at this;exact this
   have HF:=Hd hf;clear hf e4;go_wp2_with fail
   all_goals first|(exfalso;have:=HF.out;omega)|(go_ret2;exact RetW.mk (by rw [HE2.out,HN2.out];try rfl) HB.out)
  ·obtain ⟨j,rfl⟩:∃j:Nat,f=(j:Int):=⟨f.toNat,by omega⟩
   rw [Int.toNat_natCast] at HE HN;obtain ⟨g',of',rfl,c1,c2,c3⟩:=e4 j b10;obtain ⟨z0,z1⟩:=Q4.out j b10;have hj1:(j:Int)<16:=b10;clear e4 hf;generalize yl.getD j 0=z at *;by_cases hzz:z=0
   ·subst hzz;have HE2:Hid (ne=4):=by have:=HE.out;rw [if_pos b10] at this;exact this
    have HN2:Hid (nv=0):=by have:=HN.out;rw [if_neg b54] at this;exact this
    exact cl93
   ·have HE2:Hid (ne=0):=by have:=HE.out;rw [if_neg b10] at this;exact this
    have HN2:Hid (nv=z-1):=by have:=HN.out;rw [if_pos HE2.out] at this;exact this
    have hzb:(z==0)=false:=by simpa using hzz
    exact cl93
 ·have HE2:Hid (ne=pv):=by have:=HE.out;rw [if_pos hpv] at this;exact this
  have HN2:Hid (nv=0):=by have:=HN.out;rw [if_neg (by rw [HE2.out];exact hpv)] at this;exact this
  exact cl93):p:=h
end Ak54
open Ak54 in
set_option maxHeartbeats 4000000 in
theorem number_any (x:Dv) (p f:Int) (w:World) (h:DIn w x) (hz:DSz x):
 Calls Tryz.prog 122 #[dVal x,p,f] w (RetW (.tuple #[(numV x.pl p f),(numE x.pl p f)]) w):=by
 have HC:=Hd (fun W hb=>process_any x p W (h.below hb) hz);have HR:=Hd h.rows;exact cm68
end Go.Proofs.YtimhaidiclbnhaaGreat.Des
namespace Go.Proofs.YtimhaidiclbnhaaGreat.Ara
theorem check_right {l:List Ar} (h:checkV l=true):∀j,j<l.length→rightB (l.getD j Ar.zero)=true∧lastAt l j≤(l.getD j Ar.zero).st:=by
 intro j hj;unfold checkV chkTo at h;have h1:=List.all_eq_true.1 (Bool.and_eq_true _ _▸h).1 j (List.mem_range.2 hj);unfold okAt at h1;have h2:=Bool.and_eq_true _ _▸h1;exact ⟨h2.1,of_decide_eq_true h2.2⟩
theorem check_len {l:List Ar} (h:checkV l=true):l.length≤8:=by
 unfold checkV at h;exact of_decide_eq_true (Bool.and_eq_true _ _▸h).2
def inB (p:Int) (a:Ar):Bool:=decide (a.st≤p∧p<a.st+a.cn)
def findV (l:List Ar) (p:Int):Option Ar:=if checkV l=true then l.find? (inB p) else none
def arVal (a:Ar):Value:=.agg #[a.st,a.cn,a.fi,a.pg,.bool a.wr]
def optA (o:Option Ar):Ar:=o.getD Ar.zero
theorem find_hit {l:List Ar} {p:Int} {k:Nat} (hk:k<l.length) (h:∀j,j<k→inB p (l.getD j Ar.zero)=false) (hi:inB p (l.getD k Ar.zero)=true):l.find? (inB p)=some (l.getD k Ar.zero):=by
 have hg:∀j (hj:j<l.length),l.getD j Ar.zero=l[j]:=fun j hj=>by simp [List.getD,hj]
 rw [List.find?_eq_some_iff_getElem];rw [hg k hk] at hi ⊢;refine ⟨hi,k,hk,rfl,fun j hj=>?_⟩;have:=h j hj;rw [hg j b10] at this;simp [this]
theorem find_miss {l:List Ar} {p:Int} (h:∀j,j<l.length→inB p (l.getD j Ar.zero)=false):l.find? (inB p)=none:=by
 rw [List.find?_eq_none];intro x hx;obtain ⟨j,hj,rfl⟩:=List.mem_iff_getElem.1 hx;have:=h j hj;rw [show l.getD j Ar.zero=l[j] from by simp [List.getD,hj]] at this;simp [this]
def put5w (W:World) (g:Nat) (s c f p:Int) (b:Bool):World:=
 ((((W.setCell (g 0) s).setCell (g 1) c).setCell (g 2) f).setCell (g 3) p).setCell (g 4) (.bool b)
theorem put5w_below {B:Nat} (W:World) (g:Nat) (s c f p:Int) (b:Bool) (h:B≤g):Below B W (put5w W g s c f p b):=
 (((((Below.refl B W).setCell (p:=(g 0)) h _).setCell (p:=(g 1)) h _).setCell (p:=(g 2)) h _).setCell (p:=(g 3)) h _).setCell (p:=(g 4)) h _
theorem put5w_frozen (W:World) (g:Nat) (s c f p:Int) (b:Bool) (x:Addr):(put5w W g s c f p b).frozen? x=W.frozen? x:=by
 unfold put5w;rw [World.frozen?_setCell,World.frozen?_setCell,World.frozen?_setCell,World.frozen?_setCell,World.frozen?_setCell]
theorem put5w_size (W:World) (g:Nat) (s c f p:Int) (b:Bool):(put5w W g s c f p b).heap.size=W.heap.size:=by simp [put5w,World.setCell]
theorem Blk.put {W:World} {g:Nat} {a:Ar} (h:Blk W g a) (s c f p:Int) (b:Bool):Blk (put5w W g s c f p b) g ⟨s,c,f,p,b⟩:=by
 have a1:(W.setCell (g 0) s).cell? (g 1)=some (a.cn:U):=by rw [World.cell?_setCell_other _ _ _ _ b11];exact h.c1
 have a2:((W.setCell (g 0) s).setCell (g 1) c).cell? (g 2)=some (a.fi:U):=by rw [World.cell?_setCell_other _ _ _ _ b11,World.cell?_setCell_other _ _ _ _ b11];exact h.c2
 have a3:(((W.setCell (g 0) s).setCell (g 1) c).setCell (g 2) f).cell? (g 3)=some (a.pg:U):=by rw [World.cell?_setCell_other _ _ _ _ b11,World.cell?_setCell_other _ _ _ _ b11,World.cell?_setCell_other _ _ _ _ b11];exact h.c3
 have a4:((((W.setCell (g 0) s).setCell (g 1) c).setCell (g 2) f).setCell (g 3) p).cell? (g 4)=some (.bool a.wr):=by rw [World.cell?_setCell_other _ _ _ _ b11,World.cell?_setCell_other _ _ _ _ b11,World.cell?_setCell_other _ _ _ _ b11,World.cell?_setCell_other _ _ _ _ b11];exact h.c4
 refine ⟨by rw [put5w_size];exact h.hi,?_,?_,?_,?_,World.cell?_setCell_same _ _ _ a4,fun i hi=>by rw [put5w_frozen];exact h.f i hi⟩
 ·unfold put5w;rw [World.cell?_setCell_other _ _ _ _ b11,World.cell?_setCell_other _ _ _ _ b11,World.cell?_setCell_other _ _ _ _ b11,World.cell?_setCell_other _ _ _ _ b11];exact World.cell?_setCell_same _ _ _ h.c0
 ·unfold put5w;rw [World.cell?_setCell_other _ _ _ _ b11,World.cell?_setCell_other _ _ _ _ b11,World.cell?_setCell_other _ _ _ _ b11];exact World.cell?_setCell_same _ _ _ a1
 ·unfold put5w;rw [World.cell?_setCell_other _ _ _ _ b11,World.cell?_setCell_other _ _ _ _ b11];exact World.cell?_setCell_same _ _ _ a2
 ·unfold put5w;rw [World.cell?_setCell_other _ _ _ _ b11];exact World.cell?_setCell_same _ _ _ a3
namespace Azjw
theorem km15 {p : Prop} (h:p:=by
 exact cl56):p:=h
theorem km38 {p : Prop} (h:p:=by
 have HC:Hid (∀W,Below w w W→Calls Tryz.prog 131 #[.slice a l.length cap] W (RetW (.bool (checkV l)) W)):=fun W hb=>check_any B a l cap W (h.below hb) hl;exact cm61):p:=h
theorem km61 {p : Prop} (h:p:=by
 go_enter Tryz.func137,Tryz.ntmps137;exact cm105):p:=h
theorem km83 {p : Prop} (h:p:=by
 refine bodyPost_ret (v:=.tuple #[.agg #[s,c,f,q,.bool wb],.bool true]) (by simp [results,Tryz.results137,go_sem,d0,d1,d2,d3,d4]) rfl ⟨by rw [HV.out];rfl,HBD⟩):p:=h
theorem km105 {p : Prop} (h:p:=by
 cases hcv:checkV l with
 |false=>
  exact cm15
 |true=>
  have HR2:=Hd (HR.out hcv);have HM2:=Hd (HM.out hcv);have HH2:=Hd (HH.out hcv);clear HR HM HH HN hcv;go_wp2_with fail;go_loopw [14] (fun v14 wr=>∃k:Nat,k≤l.length∧v14=.int .i64 k∧Hid (Below w w wr)∧Hid (Blk wr w.heap.size ⟨0,0,0,0,false⟩)∧Hid (∀j,j<k→inB p (l.getD j Ar.zero)=false)) (fun v14 _=>200-(intOf v14).toNat)
  case atStart=>exact ⟨0,Nat.zero_le _,rfl,HB,HZ,fun j hj=>absurd hj (Nat.not_lt_zero _)⟩
  case round=>
   clear HB HZ;obtain ⟨k,hk,rfl,HB,HZ,HF⟩:=hrel;have z0:=HZ.out.c0;have z1:=HZ.out.c1;have z2:=HZ.out.c2;have z3:=HZ.out.c3;have z4:=HZ.out.c4;have y0:=HZ.out.f 0 b10;have y1:=HZ.out.f 1 b10;have y2:=HZ.out.f 2 b10;have y3:=HZ.out.f 3 b10;have y4:=HZ.out.f 4 b10;simp only at z0 z1 z2 z3 z4;by_cases hlt:k<l.length
   ·exact cm130
   ·obtain rfl:k=l.length:=b10;have hv:=HM2.out HF.out;exact cm117):p:=h
theorem km117 {p : Prop} (h:p:=by
 exact cl56):p:=h
theorem km130 {p : Prop} (h:p:=by
 clear hh hnext HA;generalize l.getD k Ar.zero=e at *;obtain ⟨s,c,f,q,wb⟩:=e;simp only at e1 e2 e3;obtain ⟨k0,k1,k2,k3,k4⟩:=hcel;simp only at k0 k1 k2 k3 k4;have HE:=Hd (fun w=>end_any ⟨s,c,f,q,wb⟩ w b42 b42);simp only at HE;have hin:inB p ⟨s,c,f,q,wb⟩=decide (s≤p∧p<s+c):=rfl;rw [hin] at HNX HHH;clear hin;have hbl:=Blk.new wr s c f q wb;have HB2:Hid (Below w w (wr.alloc (Obj.cells #[s,c,f,q,.bool wb] 139))):=HB.out.alloc HB.out.size _;have HZ2:=Hd (HZ.out.below ((Below.refl _ wr).alloc Nr (Obj.cells #[s,c,f,q,.bool wb] 139)));have hAne:wr.heap.size≠w.heap.size:=by have:=HZ.out.hi;omega
 by_cases hsp:s≤p
 ·go_wp2_with fail;clear HB HZ z0 z1 z2 z3 z4 y0 y1 y2 y3 y4 k0 k1 k2 k3 k4;generalize wr.alloc (Obj.cells #[s,c,f,q,.bool wb] 139)=w3 at *;generalize wr.heap.size=A at *;refine (HE.out _).mono ?_;rintro e w4 ⟨rfl,hb⟩;have HB:=Hd (HB2.out.trans (hb.mono HB2.out.size));have HZ:=Hd (HZ2.out.below hb);replace hbl:=hbl.below hb;clear hb HB2 HZ2;have z0:=HZ.out.c0;have z1:=HZ.out.c1;have z2:=HZ.out.c2;have z3:=HZ.out.c3;have z4:=HZ.out.c4;have y0:=HZ.out.f 0 b10;have y1:=HZ.out.f 1 b10;have y2:=HZ.out.f 2 b10;have y3:=HZ.out.f 3 b10;have y4:=HZ.out.f 4 b10;have c0:=hbl.c0;have c1:=hbl.c1;have c2:=hbl.c2;have c3:=hbl.c3;have c4:=hbl.c4;simp only at z0 z1 z2 z3 z4 c0 c1 c2 c3 c4;by_cases hpe:p<s+c
  ·have hv:=HHH.out (decide_eq_true ⟨hsp,hpe⟩);have HV:=Hd hv;clear hv HNX HHH;exact cm83
  ·have HN2:=Hd (HNX.out (decide_eq_false b10));have hpe2:s+c≤p:=b10;clear HNX HHH;go_wp2_with fail;go_roundw
   case rel=>exact ⟨k+1,by omega,by go_num,HB,HZ,HN2⟩
   case measure=>simp [intOf];omega
 ·have HN2:=Hd (HNX.out (decide_eq_false b10));have hsp2:p<s:=b10;clear HNX HHH;go_wp2_with fail;go_roundw
  case rel=>exact ⟨k+1,by omega,by go_num,HB2,HZ2,HN2⟩
  case measure=>simp [intOf];omega):p:=h
end Azjw
open Azjw in
set_option maxHeartbeats 4000000 in
theorem find_any (B:Nat) (a:Option Addr) (l:List Ar) (cap:Nat) (p:Int) (w:World) (h:ARow B a cap l w) (hl:l.length≤100):
 Calls Tryz.prog 137 #[.slice a l.length cap,p] w (RetW (.tuple #[arVal (optA (findV l p)),.bool (findV l p).isSome]) w):=by
 exact cm38
theorem find_bound {l:List Ar} {p:Int}:0≤(optA (findV l p)).st∧(optA (findV l p)).st≤64∧0≤(optA (findV l p)).pg∧(optA (findV l p)).pg≤8:=by
 unfold findV;split
 ·rename_i hc;cases hf:l.find? (inB p) with
  |none=>exact ⟨by decide,by decide,by decide,by decide⟩
  |some a=>
   have hm:=List.mem_of_find?_eq_some hf;obtain ⟨j,hj,rfl⟩:=List.mem_iff_getElem.1 hm;have h1:=(check_right hc j hj).1;rw [show l.getD j Ar.zero=l[j] from by simp [List.getD,hj]] at h1;have h2:=rightB_iff.1 h1;show 0≤l[j].st∧l[j].st≤64∧0≤l[j].pg∧l[j].pg≤8;omega
 ·exact ⟨by decide,by decide,by decide,by decide⟩
def fitAt (l:List Ar) (n:Int) (j:Nat):Bool:=decide (n≤(l.getD j Ar.zero).st-lastAt l j)
def roomK (l:List Ar) (n:Int):Nat:=((List.range l.length).find? (fitAt l n)).getD l.length
def roomV (l:List Ar) (n:Int):Int×Bool:=if checkV l=true∧withinB (lastAt l (roomK l n)) n 64=true then (lastAt l (roomK l n),true) else (0,false)
theorem roomK_hit {l:List Ar} {n:Int} {k:Nat} (hk:k<l.length) (h:∀j,j<k→fitAt l n j=false) (hi:fitAt l n k=true):roomK l n=k:=by
 unfold roomK;have:(List.range l.length).find? (fitAt l n)=some k:=by
  rw [List.find?_eq_some_iff_getElem];exact ⟨hi,k,by simpa using hk,by simp,fun j hj=>by simp [h j hj]⟩
 rw [this];rfl
theorem roomK_miss {l:List Ar} {n:Int} (h:∀j,j<l.length→fitAt l n j=false):roomK l n=l.length:=by
 unfold roomK;have:(List.range l.length).find? (fitAt l n)=none:=by
  rw [List.find?_eq_none];intro j hj;rw [h j (List.mem_range.1 hj)];simp
 rw [this];rfl
namespace Av2d
theorem km38 {p : Prop} (h:p:=by
 have HC:=Hd (check_any B a l cap w h hl);have HR:Hid (checkV l=true→∀j,j<l.length→0≤(l.getD j Ar.zero).st∧1≤(l.getD j Ar.zero).cn∧(l.getD j Ar.zero).st+(l.getD j Ar.zero).cn≤64):=fun hc j hj=>by
  exact cl90
 have HV:Hid (∀k,roomK l n=k→checkV l=true→roomV l n=if withinB (lastAt l k) n 64=true then (lastAt l k,true) else (0,false)):=by
  intro k hk hc;unfold roomV;rw [hk,hc];simp
 have HN:Hid (checkV l=false→roomV l n=(0,false)):=fun hc=>by unfold roomV;rw [hc,if_neg b11]
 clear h;go_enter Tryz.func107,Tryz.ntmps107;go_wp2_with fail;refine HC.out.mono ?_;rintro e w1 ⟨rfl,hb⟩;have HB:=Hd hb;clear hb HC;cases hcv:checkV l with
 |false=>
  have hv:=HN.out hcv;go_wp2_with fail;go_ret2;exact ⟨by rw [hv];rfl,HB.out⟩
 |true=>
  have HR2:=Hd (HR.out hcv);have HV2:Hid (∀k,roomK l n=k→roomV l n=if withinB (lastAt l k) n 64=true then (lastAt l k,true) else (0,false)):=fun k hk=>HV.out k hk hcv;clear HR HV HN hcv;have HEND:Hid (∀k,k≤l.length→0≤lastAt l k∧lastAt l k≤64):=by
   intro k hk;unfold lastAt;split
   ·omega
   ·have:=HR2.out (k-1) b10;omega
  go_wp2_with fail;go_loopw [6,14] (fun v6 v14 wr=>∃k:Nat,k≤l.length∧v6=.int .i64 (lastAt l k)∧v14=.int .i64 k∧Hid (Below w w wr)∧Hid (∀j,j<k→fitAt l n j=false)) (fun _ v14 _=>200-(intOf v14).toNat)
  case atStart=>exact ⟨0,Nat.zero_le _,rfl,rfl,HB,fun j hj=>absurd hj (Nat.not_lt_zero _)⟩
  case round=>
   clear HB;obtain ⟨k,hk,rfl,rfl,HB,HF⟩:=hrel;by_cases hlt:k<l.length
   ·have hlt':(k:Int)<(l.length:Int):=b10;obtain ⟨g,rfl,hg,hcap,hcel⟩:=HA.out _ HB.out k hlt;obtain ⟨e1,e2,e3⟩:=HR2.out k hlt;obtain ⟨l1,l2⟩:=HEND.out k hk;have hhit:fitAt l n k=true→roomK l n=k:=fun hi=>roomK_hit hlt HF.out hi;have hnext:fitAt l n k=false→∀j,j<k+1→fitAt l n j=false:=fun h j hj=>by
     by_cases e:j=k
     ·rw [e];exact h
     ·exact HF.out j b10
    have hfit:fitAt l n k=decide (n≤(l.getD k Ar.zero).st-lastAt l k):=rfl;have hla:=lastAt_succ l k;have HVK:=Hd (HV2.out k);rw [hfit] at hhit hnext;clear HA hfit;generalize l.getD k Ar.zero=e at *;obtain ⟨s,c,f,q,wb⟩:=e;simp only at e1 e2 e3 hhit hnext hla;obtain ⟨k0,k1,k2,k3,k4⟩:=hcel;simp only at k0 k1 k2 k3 k4;have HE:=Hd (fun w=>end_any ⟨s,c,f,q,wb⟩ w b42 b42);simp only at HE;have HLA:=Hd hla;have HHIT:=Hd hhit;have HNX:=Hd hnext;clear hla hhit hnext;generalize lastAt l k=la at *;have hw1:IntKind.i64.wrap (s-la)=s-la:=IntWalk.i64_in _ b10;by_cases hf:n≤s-la
    ·have hv:=HVK.out (HHIT.out (decide_eq_true hf));have HWI:=Hd (fun w=>within_any la n 64 w b10 b10);have HV3:=Hd hv;have HB2:=Hd (HB.out.alloc HB.out.size (Obj.cells #[s,c,f,q,.bool wb] 139));clear hv HNX HHIT HVK;generalize withinB la n 64=b9 at *;go_wp2_with fail;refine (HWI.out _).mono ?_;rintro e w5 ⟨rfl,rfl⟩;cases b9 with
     |false=>
      go_wp2_with fail;go_ret2;exact ⟨by rw [HV3.out];rfl,HB2.out⟩
     |true=>
      go_wp2_with fail;go_ret2;exact ⟨by rw [HV3.out];rfl,HB2.out⟩
    ·have HN2:=Hd (HNX.out (decide_eq_false hf));have hf2:s-la<n:=b10;clear HNX HHIT HVK;go_wp2_with fail;have HB2:=Hd (HB.out.alloc HB.out.size (Obj.cells #[s,c,f,q,.bool wb] 139));refine (HE.out _).mono ?_;rintro e w4 ⟨rfl,hb⟩;replace HB2:=Hd (HB2.out.trans (hb.mono HB2.out.size));clear hb;go_wp2_with fail;go_roundw
     case rel=>exact ⟨k+1,by omega,by rw [HLA.out],by go_num,HB2,HN2⟩
     case measure=>simp [intOf];omega
   ·obtain rfl:k=l.length:=b10;have hv:=HV2.out l.length (roomK_miss HF.out);have HWI:=Hd (fun w=>within_any (lastAt l l.length) n 64 w b10 b10);have HV3:=Hd hv;clear hv;generalize withinB (lastAt l l.length) n 64=b9 at *;generalize lastAt l l.length=la at *;go_wp2_with fail;refine (HWI.out _).mono ?_;rintro e w5 ⟨rfl,rfl⟩;cases b9 with
    |false=>
     go_wp2_with fail;go_ret2;exact ⟨by rw [HV3.out];rfl,HB.out⟩
    |true=>
     go_wp2_with fail;go_ret2;exact ⟨by rw [HV3.out];rfl,HB.out⟩):p:=h
end Av2d
open Av2d in
set_option maxHeartbeats 4000000 in
theorem room_any (B:Nat) (a:Option Addr) (l:List Ar) (cap:Nat) (n:Int) (w:World) (h:ARow B a cap l w) (hl:l.length≤100):
 Calls Tryz.prog 107 #[.slice a l.length cap,n] w (RetW (.tuple #[(roomV l n).1,.bool (roomV l n).2]) w):=by
 exact cm38
end Go.Proofs.YtimhaidiclbnhaaGreat.Ara
