import Derived.Test.YtimhaidiclbnhaaGreatP37
import Derived.Test.YtimhaidiclbnhaaGreatP38
set_option linter.unusedSimpArgs false
set_option linter.unusedVariables false
set_option maxRecDepth 100000
open Go.ChangeShapes Go.WideShapes Go.ChangeAt Go.RowKit
namespace Go.Proofs.YtimhaidiclbnhaaGreat.Ver
open Des (Dv De Dn DIn DBlk DAns Vi At RowOf ints DSz)
open Ara (Ar ARow)
open Con (StrRow)
namespace Ato3
theorem km0 {p : Prop} (h:p:=by
 have t0:=HL.out.t.cell 0 (.int .i64 13) b26;clear hqF hfI hnI;go_upto_region 74 with (fail)
 have HL0:=HL;have hKh:Kb<wc.heap.size:=HL.out.k.hi;go_cut [32,33,34] from 357 to 368 (fun s32 s33 s34 wx=>∃(Y:Nat) (y:Dv),s32=.pointer (some (Y 0))∧s33=.int .i64 uf∧s34=.int .i64 ue∧Hid (y.pl=DD)∧Hid (Lc true q B W wx l {l with ex:=W.heap.size::(W.heap.size+1)::Kb::l.ex} s Kb cs [I,I,J] [D.fi,D.fl,D.f,D.cu,D.rf])∧Hid (At wx Y [.slice y.oa y.o.length y.oc,.slice y.ta y.t.length y.tc])∧Hid (Vi wx (vx {l with ex:=W.heap.size::(W.heap.size+1)::Kb::l.ex}) y)∧Hid (wc.heap.size≤Y))
 case first=>as_aux_lemma=>
  replace HL:=Hd (HL.out.below Br.drew);have HLd:=HL;have hT:W.heap.size<wc.heap.size:=HL0.out.t.hi;have hM:l.M<wc.heap.size:=HL0.out.m.g.m.hi;have e1:¬wc.heap.size=W.heap.size:=b10;have e2:¬W.heap.size=wc.heap.size:=b10;have e3:¬wc.heap.size=l.M:=b10;have e4:¬l.M=wc.heap.size:=b10;clear t0;have yt1:=HL0.out.t.cell 1 (.int .i64 o.fd) b13;have ymO:wc.cell? (l.M 21)=some (.slice l.x.oa l.x.o.length l.x.oc):=HL0.out.m.cO.1;have ymP:wc.cell? (l.M 22)=some (.slice l.x.ta l.x.t.length l.x.tc):=HL0.out.m.cO.2;have t1:=HL.out.t.cell 1 (.int .i64 o.fd) b13;have mO:wc.drew.cell? (l.M 21)=some (.slice l.x.oa l.x.o.length l.x.oc):=HL.out.m.cO.1;have mP:wc.drew.cell? (l.M 22)=some (.slice l.x.ta l.x.t.length l.x.tc):=HL.out.m.cO.2;go_region_held3 (fun w'=>w'.cell? (W 0 1)=some (o.fd:U)∧w'.cell? (l.M 21)=some (.slice l.x.oa l.x.o.length l.x.oc)∧w'.cell? (l.M 22)=some (.slice l.x.ta l.x.t.length l.x.tc)) (go_keep) (first|(go_at_call 63;(first|refine (HCL.out _ _ HL.out.m rfl).mono ?_ |refine (HCL.out _ _ (HL.out.below (Br.alloc Nr _)).m rfl).mono ?_);rintro e w2 ⟨y,rfl,hpl,ha,hb⟩;have HPL:=Hd hpl;have HDA:=Hd ha;clear hpl ha;(first|(have HA:=Hd hb;replace HL:=Hd (HL.out.below hb))|(have HB:=Hd hb;obtain ⟨_,_,f0,f1,fh⟩:=Des.At.two (((At.new wc [σ,σ] 83).drew).below hb (by show wc.heap.size<(wc.alloc _).heap.size;rw [Des.alloc_size];omega));replace HL:=Hd ((HL.out.below (Br.alloc Nr _)).below hb)));clear hb t1 mO mP;have t1:=HL.out.t.cell 1 (.int .i64 o.fd) b13;have mO:w2.cell? (l.M 21)=some (.slice l.x.oa l.x.o.length l.x.oc):=HL.out.m.cO.1;have mP:w2.cell? (l.M 22)=some (.slice l.x.ta l.x.t.length l.x.tc):=HL.out.m.cO.2))
  all_goals
   go_wp2_with fail;go_meet;first|(refine ⟨_,y,rfl,rfl,rfl,HPL,Hd ?_,Hd ((Nb.after ((Below.refl wc wc).drew.trans HA.out) [.slice y.oa y.o.length y.oc,.slice y.ta y.t.length y.tc] 83).at'),Hd ?_,Hd (Nat.le_trans Nr HA.out.size)⟩;exact HL.out.below (Br.alloc Nr _);exact (HDA.out.vi HLd.out.m.g.im.di (fun b hb=>HLd.out.m.g.hix b hb)).below (Br.alloc Nr _))|(refine ⟨_,y,rfl,rfl,rfl,HPL,Hd ?_,Hd ((Nb.before (T:=83) (zs:=[σ,σ]) ((Below.refl (wc.alloc _).heap.size (wc.alloc _)).drew.trans HB.out) [.slice y.oa y.o.length y.oc,.slice y.ta y.t.length y.tc] rfl).at'),Hd ?_,Hd Nr⟩;exact HL0.out.below (Nb.before (T:=83) (zs:=[σ,σ]) ((Below.refl (wc.alloc _).heap.size (wc.alloc _)).drew.trans HB.out) [.slice y.oa y.o.length y.oc,.slice y.ta y.t.length y.tc] rfl).bel;exact ⟨(dy_beforeR HL0.out.m.g HDA.out [.slice y.oa y.o.length y.oc,.slice y.ta y.t.length y.tc]).di,fun b hb hv=>by rcases (dy_beforeR HL0.out.m.g HDA.out [.slice y.oa y.o.length y.oc,.slice y.ta y.t.length y.tc]).blk b hb with h1|h1;exact HL0.out.m.g.im.di.out b h1 hv;have:=HL0.out.m.g.hix b hv;omega⟩)
 case rest=>
 obtain ⟨Y,y,rfl,rfl,rfl,HPL,HL2,HY,HVY,HYl⟩:=hcut;replace HL:=HL2;clear HL2 HL0 HCL t0;by_cases hu:ue=0
 ·subst hu;obtain rfl:PR=_:=HE.out.trans (if_neg b11);clear HE;cases b
  ·exact cm59
  ·skip
   have HZ9:Hid (Z={s with d:=DD}):=Hd (HZ.out.trans b11);clear HZ;obtain ⟨y0,y1,_,_,yh⟩:=Des.At.two HY.out;have z0:wc.frozen? (l.M 21)=false:=HL.out.m.free 21 b10;have z1:wc.frozen? (l.M 22)=false:=HL.out.m.free 22 b10;have z2:=HL.out.m.g.m.hi;have zO:=HL.out.m.cO.1;have zP:=HL.out.m.cO.2;go_upto_region 79 with (fail)
   generalize hw3:(World.setCell _ ⟨l.M,21,none⟩ (.slice y.oa y.o.length y.oc)).setCell (l.M 22) (.slice y.ta y.t.length y.tc)=w3 at *;have HL3:Hid (Lc false q B W w3 l {l with ex:=W.heap.size::(W.heap.size+1)::Kb::l.ex,x:=y} {s with d:=y.pl} Kb cs [I,I,J] [D.fi,D.fl,D.f,D.cu,D.rf]):=by rw [←hw3];exact Hd (HL.out.stepV y (HL.out.m.putO y HVY.out) ((Vk.set _ _ _ _ (mvs _).1).trans (Vk.set _ _ _ _ (mvs _).1)))
   rw [HPL.out] at HL3;clear hw3 z0 z1 z2 zO zP y0 y1 HL HY HVY HPL;exact cm82
 ·have hu':(ue==0)=false:=by simpa using hu
  obtain rfl:PR=_:=HE.out.trans (if_pos hu);exact cm39):p:=h
theorem km20 {p : Prop} (h:p:=by
 by_cases hz:le=0
 ·subst hz;have HE2:=HE.out.trans (if_neg b11);clear HE;have HE:=Hd HE2;clear HE2;exact cm0
 ·exact cl2):p:=h
theorem km39 {p : Prop} (h:p:=by
 exact cm65):p:=h
theorem km48 {p : Prop} (h:p:=by
 have HE:=Hd (dup_eq ok.rt okr hp (o:=o));exact cm96):p:=h
theorem km59 {p : Prop} (h:p:=by
 exact cm84):p:=h
theorem km65 {p : Prop} (h:p:=by
 exact bodyPost_ret (v:=.agg #[ue,I,J]) b22 rfl b132):p:=h
theorem km75 {p : Prop} (h:p:=by
 obtain ⟨Z,hZ⟩:∃Z,Z=(if b=true then (dupR s p o).2 else s):=⟨_,rfl⟩
 rw [←hZ];have HZ:=Hd hZ;clear hZ;generalize (dupR s p o)=PR at *;generalize Des.numE s.d p o.fd=le at *;generalize Des.lookV s.d p o.fd=D at *;generalize Des.numV s.d p o.fd=nv at *;generalize Des.dupD s.d p o.fd=DD at *;generalize Des.dupE s.d p o.fd=ue at *;generalize Des.dupF s.d p o.fd=uf at *;exact cm20):p:=h
theorem km82 {p : Prop} (h:p:=by
 exact bodyPost_ret (v:=.agg #[I,uf,J]) b22 rfl b131):p:=h
theorem km84 {p : Prop} (h:p:=by
 exact bodyPost_ret (v:=.agg #[I,uf,J]) b22 rfl b130):p:=h
theorem km96 {p : Prop} (h:p:=by
 have HCL:Hid (∀W' l',Rm q B W' l' s→l'.x=l.x→Calls Tryz.prog 63 #[.agg #[.slice l.x.oa l.x.o.length l.x.oc,.slice l.x.ta l.x.t.length l.x.tc],p,o.fd] W' fun e w'=>∃y:Dv,e=.returned (.tuple #[.agg #[.slice y.oa y.o.length y.oc,.slice y.ta y.t.length y.tc],(Des.dupF s.d p o.fd),(Des.dupE s.d p o.fd)])∧y.pl=Des.dupD s.d p o.fd∧DAns W' l.x w' y∧Below W' W' w'):=Hd fun W' l' hm hx=>by
  have h1:=Des.dupR_v l'.x p o.fd W' hm.g.im.di.di (hm.dz ok.rt);rw [hm.g.im.dp,hx] at h1;exact h1
 exact cm75):p:=h
end Ato3
open Ato3 in
set_option maxHeartbeats 16000000 in
theorem byd_dup (K:Nat) (q:Rq) (B:Nat) (l:Ly) (s:St) (p:Nat) (o:Opr) (b:Bool) (W:World) (h:Rm q B W l s) (ok:Ok K s) (okr:Okr K s) (hp:p<s.scr.length) (hkd:o.kd=13):
 Calls Tryz.prog 35 #[.pointer (some (l.M 0)),p,opVal o,.bool b] W (RefP b q B W l (dupR s p o).1 (if b=true then (dupR s p o).2 else s)):=by
 exact cm48
end Go.Proofs.YtimhaidiclbnhaaGreat.Ver
namespace Go.Proofs.YtimhaidiclbnhaaGreat.Con
def PredS (f:Nat) (lb:Array Value) (p:ByteArray→Bool) (L:List ByteArray) (w:World):Prop:=
 ∀(W:World) (x:ByteArray),x∈L→Below w w W→Calls Tryz.prog f (#[.string x]++lb) W fun e w'=>e=.returned (.bool (p x))∧Below W W w'
set_option maxHeartbeats 2000000 in
theorem index_any (f:Nat) (lb:Array Value) (eg:∀args w,(callFunc f args).run Tryz.prog w=.ok (.enter f args) w) (p:ByteArray→Bool) (g off n cap:Nat) (L:List ByteArray) (w:World) (hL:L.length=n) (hn:n≤10000)
 (hp:PredS f lb p L w) (hg:g<w.heap.size) (hc:∀j,j<n→w.cell? (g (off+j))=some (.string (L.getD j ByteArray.empty))):
 Calls Tryz.prog 41 #[.slice (some (g off)) n cap,.func (.func f) #[] lb] w fun e w'=>(∃r:Int,e=.returned (.int .i64 r)∧decide (0≤r)=L.any p)∧Below w w w':=by
 have HP:=Hd hp;have HC:=Hd hc;have HL:Hid (L.length=n):=hL;clear hp hc hL;go_enter Tryz.func41,Tryz.ntmps41;go_wp2_with fail;go_loopw [5,8] (fun _ s8 wr=>∃k:Nat,k≤n∧s8=.int .i64 k∧Hid (Below w w wr)∧Hid (∀j,j<k→p (L.getD j ByteArray.empty)=false)) (fun _ s8 _=>20000-(intOf s8).toNat)
 case atStart=>exact ⟨0,Nat.zero_le _,rfl,Below.refl _ w,fun j hj=>absurd hj (Nat.not_lt_zero _)⟩
 case round=>
  obtain ⟨k,hk,rfl,HB,HF⟩:=hrel;by_cases hlt:k<n
  ·have hlt':(k:Int)<(n:Int):=b10;have hcell:wr.cell? (g (off+k))=some (.string (L.getD k ByteArray.empty)):=by rw [HB.out.cell (p:=(g (off+k))) hg];exact HC.out k hlt
   have hmem:L.getD k ByteArray.empty∈L:=by
    have hkl:k<L.length:=by rw [HL.out];exact hlt
    simp [List.getD,hkl]
   have hcall:=HP.out wr _ hmem HB.out;have HFk:=HF;have hany:Hid (p (L.getD k ByteArray.empty)=true→L.any p=true):=fun h=>List.any_eq_true.2 ⟨_,hmem,h⟩;have hstep:Hid (p (L.getD k ByteArray.empty)=false→∀j,j<k+1→p (L.getD j ByteArray.empty)=false):=by
    intro h j hj;by_cases e:j=k
    ·rw [e];exact h
    ·exact HFk.out j b10
   generalize L.getD k ByteArray.empty=y at hcell hcall hany hstep;clear hmem HF HFk;cases hq:p y with
   |true=>
    rw [hq] at hcall;have ha:=hany.out hq;go_wp2_with (go_at_fn f;refine hcall.mono ?_;rintro e w' ⟨rfl,hb'⟩)
    go_ret;exact ⟨⟨(k:Int),rfl,by rw [ha];simp⟩,HB.out.trans (hb'.mono HB.out.size)⟩
   |false=>
    rw [hq] at hcall;have HFn:=Hd (hstep.out hq);clear hany hstep;go_wp2_with (go_at_fn f;refine hcall.mono ?_;rintro e w' ⟨rfl,hb'⟩)
    go_roundw
    case rel=>exact ⟨k+1,by omega,by go_num,HB.out.trans (hb'.mono HB.out.size),HFn⟩
    case measure=>simp [intOf];omega
  ·have hge:(n:Int)≤(k:Int):=b10;have hno:Hid (L.any p=false):=by
    unfold Hid;rw [List.any_eq_false];intro x hx;obtain ⟨j,hj,rfl⟩:=List.mem_iff_getElem.1 hx;have:=HF.out j (by have:=HL.out;omega);simp only [List.getD,List.getElem?_eq_getElem hj,Option.getD_some] at this;simp [this]
   go_wp2_with fail;go_ret;exact ⟨⟨-1,rfl,by rw [hno.out];rfl⟩,HB.out⟩
set_option maxHeartbeats 1000000 in
theorem contains_any (f:Nat) (lb:Array Value) (eg:∀args w,(callFunc f args).run Tryz.prog w=.ok (.enter f args) w) (p:ByteArray→Bool) (g off n cap:Nat) (L:List ByteArray) (w:World) (hL:L.length=n) (hn:n≤10000)
 (hp:PredS f lb p L w) (hg:g<w.heap.size) (hc:∀j,j<n→w.cell? (g (off+j))=some (.string (L.getD j ByteArray.empty))):
 Calls Tryz.prog 26 #[.slice (some (g off)) n cap,.func (.func f) #[] lb] w (RetW (.bool (L.any p)) w):=by
 have HI:=Hd (index_any f lb eg p g off n cap L w hL hn hp hg hc);clear hp hc hL;generalize L.any p=r at *;go_enter Tryz.func26,Tryz.ntmps26;go_wp2_with (go_at_call 41;refine HI.out.mono ?_;rintro e w' ⟨⟨z,rfl,hz⟩,hb⟩)
 go_ret;exact RetW.mk (by rw [←hz];rfl) hb
set_option maxHeartbeats 1000000 in
theorem pred_byte (i:Nat) (s:ByteArray) (L:List ByteArray) (bi bs:Nat) (w:World) (hi:w.cell? (bi 0)=some (i:U)) (hs:w.cell? (bs 0)=some (.string s)) (li:bi<w.heap.size) (ls:bs<w.heap.size)
 (hL:∀x,x∈L→x.size≤10000) (hs2:s.size≤10000):
 PredS 27 #[.pointer (some (bi 0)),.pointer (some (bs 0))] (fun x=>bat x i==bat s i) L w:=by
 intro W x hx hb;have ci:W.cell? (bi 0)=some (i:U):=(hb.cell (p:=(bi 0)) li).trans hi;have cs:W.cell? (bs 0)=some (.string s):=(hb.cell (p:=(bs 0)) ls).trans hs;show Calls Tryz.prog 27 #[.string x,.pointer (some (bi 0)),.pointer (some (bs 0))] W _;have h1:=fun w=>byte_any x (i:Int) w (by have:=hL x hx;unfold maxLen;omega);have h2:=fun w=>byte_any s (i:Int) w b17;rw [if_neg b10,show ((i:Int)).toNat=i from by omega] at h1 h2;change ∀w,Calls Tryz.prog 28 #[.string x,i] w fun e w'=>e=.returned (.int .u8 ((bat x i).toNat:Int))∧w=w' at h1
 change ∀w,Calls Tryz.prog 28 #[.string s,i] w fun e w'=>e=.returned (.int .u8 ((bat s i).toNat:Int))∧w=w' at h2
 have HE:Hid ((((bat x i).toNat:Int)==((bat s i).toNat:Int))=(bat x i==bat s i)):=by
  unfold Hid;rw [Bool.eq_iff_iff];simp only [beq_iff_eq];constructor
  ·intro h;exact UInt8.toNat_inj.1 b10
  ·intro h;rw [h]
 simp only;rw [←HE.out];generalize ((bat x i).toNat:Int)=u at *;generalize ((bat s i).toNat:Int)=v at *;have H1:=Hd h1;have H2:=Hd h2;clear h1 h2 HE hL hx hb;go_enter Tryz.func27,Tryz.ntmps27;go_wp2_with fail;go_quiet (first|with_reducible exact (H1.out _).mono (fun _ _ h=>⟨h.1,_,h.2.symm⟩)|with_reducible exact (H2.out _).mono (fun _ _ h=>⟨h.1,_,h.2.symm⟩));go_wp2_with fail;go_ret;exact ⟨rfl,below_drewN Br _⟩
set_option maxHeartbeats 1000000 in
theorem pred_len (s:ByteArray) (L:List ByteArray) (bs:Nat) (w:World) (hs:w.cell? (bs 0)=some (.string s)) (ls:bs<w.heap.size)
 (hL:∀x,x∈L→x.size≤10000) (hs2:s.size≤10000):
 PredS 29 #[.pointer (some (bs 0))] (fun x=>x.size==s.size) L w:=by
 intro W x hx hb;have cs:W.cell? (bs 0)=some (.string s):=(hb.cell (p:=(bs 0)) ls).trans hs;have hxs:=hL x hx;show Calls Tryz.prog 29 #[.string x,.pointer (some (bs 0))] W _;have HE:Hid (((x.size:Int)==(s.size:Int))=(x.size==s.size)):=by
  unfold Hid;rw [Bool.eq_iff_iff];simp only [beq_iff_eq];omega
 simp only;rw [←HE.out];clear HE hL hx hb;go_enter Tryz.func29,Tryz.ntmps29;go_wp2_with fail;go_ret;exact ⟨rfl,Below.refl _ _⟩
set_option maxHeartbeats 4000000 in
theorem may_any (B:Nat) (a:Option Addr) (l:List ByteArray) (cap:Nat) (q:Int) (s:ByteArray) (w:World) (h:StrRow B a cap l w) (hl:l.length≤10000) (hs:∀x,x∈l→x.size≤10000) (hs2:s.size≤10000):
 Calls Tryz.prog 20 #[.agg #[.slice a l.length cap,q],.string s] w (RetW (.bool (mayV l q s)) w):=by
 by_cases hq:q<0∨(l.length:Int)≤q
 ·have HR:Hid (mayV l q s=false):=mayV_out hq;have HQ:=Hd hq;clear hq;go_enter Tryz.func20,Tryz.ntmps20;go_wp2_with fail
  all_goals
   first
   |(exfalso;have:=HQ.out;omega)
   | (go_ret
      exact RetW.mk b51 (((Below.refl _ w).alloc Nr _).alloc b11 _))
 ·obtain ⟨q,rfl⟩:=Int.eq_ofNat_of_zero_le (show 0≤q by omega);have hql:q<l.length:=b10;rcases h with ⟨rfl,rfl,rfl⟩|⟨g,rfl,h2,h3,h4,h5,h6⟩
  ·exact absurd hql (Nat.not_lt_zero _)
  have HV:Hid (mayV l (q:Int) s=(allTo l q s 128&&(l.drop q).any fun x=>x.size==s.size)):=mayV_in hql;have HL:Hid (∀x,x∈l.drop q→x.size≤10000):=fun x hx=>hs x (List.mem_of_mem_drop hx);have HN:Hid ((l.drop q).length=l.length-q):=List.length_drop;have HC:Hid (∀j,j<l.length-q→w.cell? (g (q+j))=some (.string ((l.drop q).getD j ByteArray.empty))):=by
   intro j hj;rw [h6 (q+j) b10];simp [List.getD]
  have h1:(q:Int)<(l.length:Int):=b10;have h0:(0:Int)≤(q:Int):=b10;have hcap:(l.length:Int)≤(cap:Int):=b10;have e1:((q:Int)).toNat=q:=b10;clear hq h6 hs;go_enter Tryz.func20,Tryz.ntmps20;go_wp2_with fail;have HB0:Hid (Below w w ((w.alloc (Obj.cells #[.slice (some (g 0)) l.length cap,.int .i64 ↑q] 57)).alloc (Obj.cells #[.string s] 9))):=((Below.refl _ w).alloc Nr _).alloc b11 _;have HS0:Hid (((w.alloc (Obj.cells #[.slice (some (g 0)) l.length cap,.int .i64 ↑q] 57)).alloc (Obj.cells #[.string s] 9)).heap.size=w.heap.size+2):=by unfold Hid;simp
  have HS1:Hid (((w.alloc (Obj.cells #[.slice (some (g 0)) l.length cap,.int .i64 ↑q] 57)).alloc (Obj.cells #[.string s] 9)).cell? (w 1 0)=some (.string s)):=by unfold Hid;simp
  generalize (w.alloc (Obj.cells #[.slice (some (g 0)) l.length cap,.int .i64 ↑q] 57)).alloc (Obj.cells #[.string s] 9)=W0 at *;generalize decide (l.length≤q)=b1;generalize decide ((q:Int)<0)=b2;go_loopw [4,6,23] (fun _ _ s23 wr=>∃k:Nat,k≤128∧s23=.int .i64 k∧Hid (Below W0 W0 wr)∧Hid (allTo l q s k=true)) (fun _ _ s23 _=>200-(intOf s23).toNat)
  case atStart=>exact ⟨0,by omega,rfl,Below.refl _ _,rfl⟩
  case round=>
   obtain ⟨k,hk,rfl,HB,HF⟩:=hrel;have hz:=HB.out.size;have hz0:=HS0.out;by_cases hlt:k<128
   ·have hlt':(k:Int)<128:=b10;have hcall:=contains_any 27 #[.pointer (some (wr 0 0)),.pointer (some (w 1 0))] (enters_of Tryz.func27 b12 rfl) (fun x=>bat x k==bat s k) g q (l.length-q) (cap-q) (l.drop q) (wr.alloc (.cells #[k] 3)) HN.out b10
     (pred_byte k s _ wr.heap.size (w.heap.size + 1) _ b11 (by
      refine Lib.cell?_alloc_some _ ?_; rw [HB.out.cell (by show w.heap.size + 1 < _; omega)]; exact HS1.out) b11 b16 HL.out hs2) b16 (fun j hj=>by
      refine Lib.cell?_alloc_some _ ?_;rw [HB.out.cell (by show g< _;omega),HB0.out.cell (by show g< _;omega)];exact HC.out j hj)
    have hb2:Below W0 W0 (wr.alloc (.cells #[k] 3)):=HB.out.alloc hz _;have hz2:=hb2.size;have HB2:=Hd hb2;have hstep:=allTo_succ l q s k;have hfal:=@allTo_false l q s k 128;cases hq2:(l.drop q).any (fun x=>bat x k==bat s k) with
    |true=>
     rw [hq2] at hcall;rw [HF.out,hq2] at hstep;have HF2:=Hd hstep;have HCL:=Hd hcall;clear hcall hstep hfal hb2 hz2 hz hz0 hq2;go_wp2_with (go_at_call 26;refine HCL.out.mono ?_;rintro e w' ⟨rfl,hb'⟩)
     go_roundw
     case rel=>exact ⟨k+1,by omega,by go_num,HB2.out.trans (hb'.mono HB2.out.size),HF2⟩
     case measure=>simp [intOf];omega
    |false=>
     rw [hq2] at hcall;have HF2:=Hd (hfal hq2 hlt);have HCL:=Hd hcall;clear hcall hstep hfal hb2 hz2 hz hz0 hq2;go_wp2_with (go_at_call 26;refine HCL.out.mono ?_;rintro e w' ⟨rfl,hb'⟩)
     go_ret;exact RetW.mk (by rw [HV.out,HF2.out];rfl) (HB0.out.trans ((HB2.out.trans (hb'.mono HB2.out.size)).mono HB0.out.size))
   ·obtain rfl:k=128:=b10;have hcall:=contains_any 29 #[.pointer (some (w 1 0))] (enters_of Tryz.func29 b12 rfl) (fun x=>x.size==s.size) g q (l.length-q) (cap-q) (l.drop q) wr HN.out b10
     (pred_len s _ (w.heap.size + 1) _ (by
      rw [HB.out.cell (by show w.heap.size + 1 < _; omega)]; exact HS1.out) b10 HL.out hs2) b10 (fun j hj=>by
      rw [HB.out.cell (by show g< _;omega),HB0.out.cell (by show g< _;omega)];exact HC.out j hj)
    have HV2:Hid (mayV l (q:Int) s=(l.drop q).any fun x=>x.size==s.size):=by unfold Hid;rw [HV.out,HF.out,Bool.true_and]
    generalize (l.drop q).any (fun x=>x.size==s.size)=r at *;have HCL:=Hd hcall;clear hcall hz hz0;go_wp2_with (go_at_call 26;refine HCL.out.mono ?_;rintro e w' ⟨rfl,hb'⟩)
    go_ret;exact RetW.mk (by rw [HV2.out];rfl) (HB0.out.trans ((HB.out.trans (hb'.mono HB.out.size)).mono HB0.out.size))
end Go.Proofs.YtimhaidiclbnhaaGreat.Con
namespace Go.Proofs.YtimhaidiclbnhaaGreat.Ver
open Des (Dv De Dn DIn DBlk DAns Vi At RowOf ints DSz)
open Ara (Ar ARow)
open Con (StrRow)
theorem at_vk {V:List Nat} {w w':World} {b:Nat} {cs:List Value} (h:At w b cs) (hk:Vk V w w') (hb:b∉V):At w' b cs:=At.keepB h hk.size (hk.block b hb h.hi)
structure Bt (W w4:World) (pl sc:Value) (n ns:Nat) (β:Nat→Nat) (y:Dv):Prop where
 al:∀j,j<5→W.heap.size+2≤β j∧β j<w4.heap.size∧At w4 (β j) ((zsR n ns).getD j ([],0)).1
 ne:∀i j,i<6→j<6→i≠j→β i≠β j
 five:W.heap.size+2≤β 5∧β 5<w4.heap.size
 di:DIn w4 y
 dl:∀b,DBlk y b→W.heap.size+2≤b∧b<w4.heap.size∧∀j,j<6→b≠β j
 bel:Below W W w4
 m:At w4 (β 5) (rZ pl sc (.slice y.oa y.o.length y.oc) (.slice y.ta y.t.length y.tc) n ns β (.slice none 0 0) (.slice none 0 0) (.slice none 0 0))
 r:At w4 (W.heap.size+1) z31
 cf:At w4 W.heap.size (cfgC pl sc)
section
variable {W W1 w w3 w4 wr w1:World} {pl sc:Value} {n ns n0:Nat} {β:Nat→Nat} {y:Dv} {ν:Nat→Value} {v3 v6 v7:Value} {hs st:List Sl} {scr:List (List Opr)} {lst:List ByteArray} {kc kh ks:Nat}
theorem Bt.make (hX:Bx2 W W1 W.heap.size (W.heap.size+1) (cfgC pl sc) z31) (hF:BrF W1 pl sc n ns ν β w) (hda:DAns w Dv.nil w3 y) (hb3:Below w w w3):
 Bt W ((w3.setCell ((β 5) 21) (.slice y.oa y.o.length y.oc)).setCell ((β 5) 22) (.slice y.ta y.t.length y.tc)) pl sc n ns β y:=by
 have hR:=hX.r.hi;have hs3:=hb3.size;have hk:Vk [β 5] w3 ((w3.setCell ((β 5) 21) (.slice y.oa y.o.length y.oc)).setCell ((β 5) 22) (.slice y.ta y.t.length y.tc)):=(Vk.set w3 (β 5) 21 _ b11).trans (Vk.set _ (β 5) 22 _ b11);have hsz:((w3.setCell ((β 5) 21) (.slice y.oa y.o.length y.oc)).setCell ((β 5) 22) (.slice y.ta y.t.length y.tc)).heap.size=w3.heap.size:=by simp [World.setCell]
 have hm3:At w3 (β 5) (rz0 pl sc n ns β):=hF.m.below hb3 hF.m.hi;have hlo:=hF.lo;have hdl:∀b,DBlk y b→w.heap.size≤b:=fun b hbb=>by
  rcases hda.blk b hbb with h1|h1
  ·rcases h1 with ⟨q,h2,_⟩|⟨q,h2,_⟩|⟨z,hz,_⟩
   ·cases h2
   ·cases h2
   ·cases hz
  ·exact h1
 have hbw:Below W W w3:=hX.bel.trans ((hF.bel.mono hX.bel.size).trans (hb3.mono (Nat.le_trans hX.bel.size hF.bel.size)));have hlt:∀j,j<6→β j<w.heap.size:=fun j hj=>by
  by_cases e:j=5
  ·subst e;exact hF.m.hi
  ·exact (hF.al j b10).2.hi
 refine ⟨fun j hj=>⟨?_,?_,?_⟩,hF.ne,⟨by omega,by rw [hsz];exact hm3.hi⟩,?_,fun b hbb=>⟨?_,?_,fun j hj=>?_⟩,?_,?_,?_,?_⟩
 ·have:=(hF.al j hj).1;omega
 ·rw [hsz];have:=hlt j b10;omega
 ·exact at_vk ((hF.al j hj).2.at.below hb3 (hlt j b10)) hk (by simp;exact hF.ne j 5 b10 b10 b10)
 ·exact hda.di.keepB hk.size fun b hbb=>hk.block b (by simp;have:=hdl b hbb;have:=hlt 5 b10;omega) (hda.di.blk hbb)
 ·have:=hdl b hbb;have:=hF.bel.size;omega
 ·rw [hsz];exact hda.di.blk hbb
 ·have:=hdl b hbb;have:=hlt j hj;omega
 ·exact (hbw.setCell (p:=((β 5) 21)) (by show W.heap.size≤β 5;omega) _).setCell (p:=((β 5) 22)) (by show W.heap.size≤β 5;omega) _
 ·exact (hm3.set 21 _).set 22 _
 ·exact at_vk (((hX.r.below hF.bel hR)).below hb3 (by have:=hF.bel.size;omega)) hk b16
 ·exact at_vk (((hX.t.below hF.bel hX.t.hi)).below hb3 (by have:=hX.t.hi;have:=hF.bel.size;omega)) hk b16
theorem Bs.nil (w:World) (n0:Nat) (lst:List ByteArray):Bs n0 w lst 0 0 0 (.slice none 0 0) (.slice none 0 0) (.slice none 0 0) [] []:=
 ⟨World.ownsRow_nil w _ 9 1,World.ownsRow_nil w _ 57 2,World.ownsRow_nil w _ 22 1,rfl,rfl,fun i hi=>by omega,fun i hi=>by omega,List.nodup_nil⟩
theorem grown_keep {wa:World} {M:Nat} {v:Value} {e size m:Nat} {xs cs:List Value} (ho:w.ownsRow n0 e size v m xs) (hb:Below w w wa) (hm:At w M cs) (hM:M<n0) (hg:wa.grownBy w1 v.ownBlock):At w1 M cs:=
 At.keepB hm (Nat.le_trans hb.size hg.size) ((hg.block M (Nat.lt_of_lt_of_le hm.hi hb.size) fun e2=>by have:=(own_ty ho e2.symm).1;omega).trans (hb.block M hm.hi))
theorem grown_vk {wa:World} {M j:Nat} {v u:Value} {e size m:Nat} {xs:List Value} (ho:w.ownsRow w4.heap.size e size v m xs) (hb:Below w w wa) (hv:Vk [M] w4 w) (hg:wa.grownBy w1 v.ownBlock):Vk [M] w4 (w1.setCell (M j) u):=
 (show Vk [M] w4 w1 from ⟨hg.os.trans (hb.os.trans hv.os),hg.tape.trans (hb.tape.trans hv.tape),hg.output.trans (hb.output.trans hv.output),Nat.le_trans hv.size (Nat.le_trans hb.size hg.size),fun k hk hl=>
  (hg.block k (Nat.lt_of_lt_of_le hl (Nat.le_trans hv.size hb.size)) fun e2=>by have:=(own_ty ho e2.symm).1;omega).trans ((hb.block k (Nat.lt_of_lt_of_le hl hv.size)).trans (hv.block k hk hl))⟩).trans (Vk.set _ M j u b11)
theorem bstepC {wa:World} {M j g cap:Nat} {u:Value} (h:Bs n0 w lst kc kh ks v3 v6 v7 hs st) (hb:Below w w wa) (hM:M<n0) (hown:w1.ownsRow n0 9 1 (.slice (some (g 0)) (kc+1) cap) (kc+1) ((List.range kc).map (fun i=>Value.string (lst.getD i ⟨#[]⟩))++[.string (lst.getD kc ⟨#[]⟩)])) (hg:wa.grownBy w1 v3.ownBlock) (hat:v3.ownBlock=some g∨g=wa.heap.size):
 Bs n0 (w1.setCell (M j) u) lst (kc+1) kh ks (.slice (some (g 0)) (kc+1) cap) v6 v7 hs st:=((h.below hb).growC hown hg hat).setM hM j u
theorem own_lt {v:Value} {e size m:Nat} {xs:List Value} (h:w.ownsRow n0 e size v m xs):v.ownBlock≠some w.heap.size:=fun e2=>by
 obtain ⟨_,cur,h3⟩:=own_ty h e2;rw [Array.getElem?_eq_none Nr] at h3;cases h3
theorem bstepH {M j g cap:Nat} {u V:Value} {T:TypeId} (h:Bs n0 w lst kc kh ks v3 v6 v7 hs st) (hn0:n0≤w.heap.size) (hM:M<n0)
 (hown:w1.ownsRow n0 57 2 (.slice (some (g 0)) (kh+1) cap) (kh+1) (hs.flatMap (fun s=>[.slice s.a 1 s.c,.int .i64 0])++[.slice (some (w 0 0)) 1 1,.int .i64 0]))
 (hg:((w.alloc (.cells #[.string (lst.getD kh ⟨#[]⟩)] 9)).alloc (.cells #[V,I] T)).grownBy w1 v6.ownBlock):
 Bs n0 (w1.setCell (M j) u) lst kc (kh+1) ks v3 (.slice (some (g 0)) (kh+1) cap) v7 (hs++[⟨some ⟨w.heap.size,0,none⟩,1⟩]) st:=by
 have hb1:Below w w (w.alloc (.cells #[.string (lst.getD kh ⟨#[]⟩)] 9)):=Br.alloc Nr _;have hb2:Below w w ((w.alloc (.cells #[.string (lst.getD kh ⟨#[]⟩)] 9)).alloc (.cells #[V,I] T)):=hb1.alloc hb1.size _;have hs1:(w.alloc (.cells #[.string (lst.getD kh ⟨#[]⟩)] 9)).heap.size=w.heap.size+1:=Des.alloc_size _ _;have hbl:Bl ((w.alloc (.cells #[.string (lst.getD kh ⟨#[]⟩)] 9)).alloc (.cells #[V,I] T)) w.heap.size [.string (lst.getD kh ⟨#[]⟩)] 9:=
  Bl.below (B:=(w.alloc (.cells #[.string (lst.getD kh ⟨#[]⟩)] 9)).heap.size) (Bl.new w [.string (lst.getD kh ⟨#[]⟩)] 9) (Br.alloc Nr _) b10
 exact ((h.below hb2).growH hbl hn0 (own_lt h.cf) hown hg).setM hM j u
theorem bstepS {M j g cap:Nat} {u V:Value} {T:TypeId} (h:Bs n0 w lst kc kh ks v3 v6 v7 hs st) (hn0:n0≤w.heap.size) (hM:M<n0)
 (hown:w1.ownsRow n0 22 1 (.slice (some (g 0)) (ks+1) cap) (ks+1) (st.map (fun s=>.slice s.a 1 s.c)++[.slice (some (w 0 0)) 1 1]))
 (hg:((w.alloc (.cells #[(1:Int)] 3)).alloc (.cells #[V] T)).grownBy w1 v7.ownBlock):
 Bs n0 (w1.setCell (M j) u) lst kc kh (ks+1) v3 v6 (.slice (some (g 0)) (ks+1) cap) hs (st++[⟨some ⟨w.heap.size,0,none⟩,1⟩]):=by
 have hb1:Below w w (w.alloc (.cells #[(1:Int)] 3)):=Br.alloc Nr _;have hb2:Below w w ((w.alloc (.cells #[(1:Int)] 3)).alloc (.cells #[V] T)):=hb1.alloc hb1.size _;have hs1:(w.alloc (.cells #[(1:Int)] 3)).heap.size=w.heap.size+1:=Des.alloc_size _ _;have hbl:Bl ((w.alloc (.cells #[(1:Int)] 3)).alloc (.cells #[V] T)) w.heap.size [(1:Int)] 3:=
  Bl.below (B:=(w.alloc (.cells #[(1:Int)] 3)).heap.size) (Bl.new w [(1:Int)] 3) (Br.alloc Nr _) b10
 refine ((h.below hb2).growS hbl hn0 (fun i hi c hc e=>?_) hown hg).setM hM j u;obtain ⟨b,q1,q2,q3⟩:=h.si i hi;rw [q1] at hc;cases hc;have:=q3.hi;omega
theorem start_end (hB:Bt W w4 pl sc n scr.length β y) (hp:y.pl=Des.newD scr.length) (hv:Vk [β 5] w4 wr) (hbs:Bs w4.heap.size wr lst n n n v3 v6 v7 hs st)
 (hm:At wr (β 5) (rZ pl sc (.slice y.oa y.o.length y.oc) (.slice y.ta y.t.length y.tc) n scr.length β v3 v6 v7)) (hsc:ScIn W.heap.size W sc scr) (hn:1≤n) {w9:World}
 (h9:w9=wr.setCells (W.heap.size+1) 0 (rZ pl sc (.slice y.oa y.o.length y.oc) (.slice y.ta y.t.length y.tc) n scr.length β v3 v6 v7)):
 At w9 (W.heap.size+1) (rZ pl sc (.slice y.oa y.o.length y.oc) (.slice y.ta y.t.length y.tc) n scr.length β v3 v6 v7)∧StaQ W pl sc (stS (begS scr n lst)) (.returned (.agg (rZ pl sc (.slice y.oa y.o.length y.oc) (.slice y.ta y.t.length y.tc) n scr.length β v3 v6 v7).toArray)) w9:=by
 subst h9;have h5:=hB.five;have hr:At wr (W.heap.size+1) z31:=at_vk hB.r hv b16;have hk:Vk [W.heap.size+1] wr (wr.setCells (W.heap.size+1) 0 (rZ pl sc (.slice y.oa y.o.length y.oc) (.slice y.ta y.t.length y.tc) n scr.length β v3 v6 v7)):=Vk_cells _ b11 _ 0 wr;have hW4:=hB.bel.size;have hRlt:=hB.r.hi;have hbw:Below W W wr:=hB.bel.trans (hv.below hW4 fun b hb=>by simp at hb;omega);refine ⟨hr.store _ rfl,?_⟩;have f1:∀j,j<5→W.heap.size≤β j∧β j<w4.heap.size∧At (wr.setCells (W.heap.size+1) 0 (rZ pl sc (.slice y.oa y.o.length y.oc) (.slice y.ta y.t.length y.tc) n scr.length β v3 v6 v7)) (β j) ((zsR n scr.length).getD j ([],0)).1:=fun j hj=>by
  obtain ⟨a1,a2,a3⟩:=hB.al j hj;exact ⟨by omega,a2,at_vk (at_vk a3 hv (by simp;exact hB.ne j 5 b10 b10 b10)) hk b16⟩
 have f2:DIn (wr.setCells (W.heap.size+1) 0 (rZ pl sc (.slice y.oa y.o.length y.oc) (.slice y.ta y.t.length y.tc) n scr.length β v3 v6 v7)) y:=by
  have d1:DIn wr y:=hB.di.keepB hv.size fun b hb=>hv.block b (by simp;exact (hB.dl b hb).2.2 5 b10) (hB.dl b hb).2.1;exact d1.keepB hk.size fun b hb=>hk.block b (by simp;have:=(hB.dl b hb).1;omega) (Nat.lt_of_lt_of_le (hB.dl b hb).2.1 hv.size)
 have f3:∀b,DBlk y b→W.heap.size≤b∧b<w4.heap.size∧∀j,j<6→b≠β j:=fun b hb=>by
  obtain ⟨a1,a2,a3⟩:=hB.dl b hb;exact ⟨by omega,a2,a3⟩
 have f4:=hsc.below (below_setCells hbw (show W.heap.size≤W.heap.size+1 by omega) (rZ pl sc (.slice y.oa y.o.length y.oc) (.slice y.ta y.t.length y.tc) n scr.length β v3 v6 v7) 0);obtain ⟨q,l,e,h1,h2,h3,h4,h6,h7⟩:=start_mm (W:=W) (scr:=scr) (at_vk hm hk b16) f1 ⟨by omega,h5.2⟩ hB.ne f2 f3 hp f4 hn (hbs.keep fun b q1 q2=>hk.block b b16 q2) (below_setCells hbw b10 _ 0);exact ⟨q,l,by rw [e],h1,h2,h3,h4,h6,h7⟩
end
open Des (At)
theorem find66:(Tryz.prog.info? 66).map (fun i=>(i.zero,i.size,i.bytes))=some (some (.agg #[I,I,I,I,I,I,I,J,.bool false]),9,80):=by kernel_rfl
theorem find67:(Tryz.prog.info? 67).map (fun i=>(i.zero,i.size,i.bytes))=some (some (.slice none 0 0),1,24):=by kernel_rfl
theorem opflat_snoc (xs:List Opr) (y:Opr):(xs++[y]).flatMap Opr.cells=xs.flatMap Opr.cells++y.cells:=b11
def OprK (o:Opr):Prop:=1≤o.kd∧o.kd≤14∧o.off≤1000000∧o.dat.size≤1000
structure ScrB (w:World) (g c:Nat) (l:List Opr):Prop where
 hi:g<w.heap.size
 lc:l.length≤c
 cm:c≤maxLen
 at':∀i,i<l.length→OpAt w g (0+i*9) (l.getD i Opr.zero)
theorem ScrB.keep {W W':World} {g c:Nat} {l:List Opr} (h:ScrB W g c l) (hs:W.heap.size≤W'.heap.size) (e:∀j,W'.cell? (g j)=W.cell? (g j)):ScrB W' g c l:=
 ⟨Nat.lt_of_lt_of_le h.hi hs,h.lc,h.cm,fun i hi=>⟨fun j v hv=>(e _).trans ((h.at' i hi).c j v hv)⟩⟩
theorem ScrB.ofOwn {w:World} {B g c:Nat} {l:List Opr} (h:w.ownsRow B 66 9 (.slice (some (g 0)) l.length c) l.length (l.flatMap Opr.cells)):ScrB w g c l:=by
 obtain ⟨⟨h1,h2,h3,h4⟩,h5⟩:=own_cell h;refine ⟨h1,h3,h4,fun i hi=>⟨fun j v hv=>h5 _ _ ?_⟩⟩;have hj:j<9:=(List.getElem?_eq_some_iff.1 hv).1;rw [Nat.zero_add,flatk_at Opr.cells 9 (fun _=>rfl) Opr.zero l i j hi hj];exact hv
def ScrP (w0:World) (t:Nat) (a:Option Addr) (len cap:Nat) (W:World) (e:Ending) (w':World):Prop:=
 ∃scr sa scp,e=.returned (.slice sa scr.length scp)∧(1≤scr.length∧scr.length≤8)∧ScIn w'.heap.size w' (.slice sa scr.length scp) scr∧OpsOK scr∧TP w0 t a len cap w'∧Tock t W w'
structure ScrL (w0:World) (t:Nat) (a:Option Addr) (len cap:Nat) (W:World) (scr:List (List Opr)) (us:List Value) (lv:Value) (wr:World):Prop where
 own:wr.ownsRow W.heap.size 67 1 lv scr.length us
 row:∀i,i<scr.length→∃g c,us[i]? =some (.slice (some ⟨g,0,none⟩) (scr.getD i []).length c)∧W.heap.size≤g∧lv.ownBlock≠some g∧ScrB wr g c (scr.getD i [])
 ok:∀s,s∈scr→∀o,o∈s→OprK o
 tp:TP w0 t a len cap wr
 tk:Tock t W wr
 tl:t<W.heap.size
section
variable {w0:World} {t:Nat} {a:Option Addr} {len cap:Nat} {W:World} {scr:List (List Opr)} {us:List Value} {lv:Value} {wr w':World}
theorem ScrL.start (h:TP w0 t a len cap W):ScrL w0 t a len cap W [] [] (.slice none 0 0) W:=
 ⟨World.ownsRow_nil _ _ 67 1,fun i hi=>absurd hi (Nat.not_lt_zero _),fun s hs=>(by cases hs),h,Tock.refl _ _,h.hi⟩
theorem ScrL.tock (h:ScrL w0 t a len cap W scr us lv wr) (ht:Tock t wr w') (hp:TP w0 t a len cap w'):ScrL w0 t a len cap W scr us lv w':=
 have h1:=h.tl
 ⟨tock_own ht h.own h1,fun i hi=>by
  obtain ⟨g,c,e1,e2,e3,e4⟩:=h.row i hi;exact ⟨g,c,e1,e2,e3,e4.keep ht.size fun j=>ht.cell b10 e4.hi⟩,h.ok,hp,h.tk.trans ht,h1⟩
theorem ScrL.app (h:ScrL w0 t a len cap W scr us lv wr) {wi:Nat} {l:List Opr} {g gi ci c:Nat} (hi:∀q,lv.ownBlock=some q→q<wi)
 (hs:ScrB wr gi ci l) (hgi:wi≤gi) (hW:W.heap.size≤gi) (hl:∀o,o∈l→OprK o)
 (hown:w'.ownsRow W.heap.size 67 1 (.slice (some (g 0)) (scr.length+1) c) (scr.length+1) (us++[.slice (some (gi 0)) l.length ci])) (hg:wr.grownBy w' lv.ownBlock) (hat:lv.ownBlock=some g∨g=wr.heap.size):
 ScrL w0 t a len cap W (scr++[l]) (us++[.slice (some (gi 0)) l.length ci]) (.slice (some (g 0)) (scr.length+1) c) w':=by
 have h1:=h.tl;have hul:us.length=scr.length:=by have:=h.own.1;omega
 have hWs:=h.tk.size;have hb:Below W wr w':=(Below.refl _ wr).grown hg hWs (fun q hq=>(h.own.lt q hq).1);have hfar:∀b,b<wr.heap.size→lv.ownBlock≠some b→(∀j,w'.cell? ⟨b,j,none⟩=wr.cell? ⟨b,j,none⟩)∧Value.ownBlock (.slice (some (g 0)) (scr.length+1) c)≠some b:=fun b hb hne=>by
  refine ⟨fun j=>hg.cell_far ⟨b,j,none⟩ hb (fun e=>hne e.symm),fun e=>?_⟩;have e:g=b:=Option.some.inj e;rcases hat with h2|h2
  ·exact hne (by rw [h2,e])
  ·omega
 refine ⟨by rw [List.length_append,List.length_singleton];exact hown,fun i hi2=>?_,fun s hs2 o ho=>?_,h.tp.below hb h1,tock_put h.tk hb Nr,h1⟩
 ·rw [List.length_append,List.length_singleton] at hi2;by_cases e:i<scr.length
  ·obtain ⟨g2,c2,e1,e2,e3,e4⟩:=h.row i e;have e5:(scr++[l]).getD i []=scr.getD i []:=by rw [List.getD_eq_getElem?_getD,List.getD_eq_getElem?_getD,List.getElem?_append_left e]
   obtain ⟨f1,f2⟩:=hfar g2 e4.hi e3;rw [e5,List.getElem?_append_left b10];exact ⟨g2,c2,e1,e2,f2,e4.keep hg.size f1⟩
  ·obtain rfl:i=scr.length:=b10;have e5:(scr++[l]).getD scr.length []=l:=by simp [List.getD]
   obtain ⟨f1,f2⟩:=hfar gi hs.hi (fun e=>by have:=hi _ e;omega);rw [e5,List.getElem?_append_right b10,hul,Nat.sub_self];exact ⟨gi,ci,rfl,hW,f2,hs.keep hg.size f1⟩
 ·rcases List.mem_append.1 hs2 with h2|h2
  ·exact h.ok s h2 o ho
  ·rw [List.mem_singleton.1 h2] at ho;exact hl o ho
theorem ScrL.fin (h:ScrL w0 t a len cap W scr us lv wr) (hn:1≤scr.length∧scr.length≤8):ScrP w0 t a len cap W (.returned lv) wr:=by
 obtain ⟨g,c,rfl,h2,h3⟩:=h.own.form hn.1;obtain ⟨⟨k1,k2,k3,k4⟩,k5⟩:=own_cell h.own;refine ⟨scr,some ⟨g,0,none⟩,c,rfl,hn,⟨g,0,c,rfl,k1,k3,k4,fun i hi=>?_⟩,fun p i hp hi=>?_,h.tp,h.tk⟩
 ·obtain ⟨g2,c2,e1,e2,e3,e4⟩:=h.row i hi;refine ⟨_,by rw [Nat.zero_add];exact k5 i _ e1,g2,0,c2,rfl,e4.hi,e4.lc,e4.cm,e4.at'⟩
 ·have e1:scr.getD p []=scr[p]:=by simp [List.getD,hp]
  have e2:(scr.getD p []).getD i Opr.zero=(scr.getD p [])[i]:=by rw [List.getD_eq_getElem?_getD,List.getElem?_eq_getElem hi];rfl
  rw [e2];exact h.ok (scr.getD p []) (by rw [e1];exact List.getElem_mem hp) _ (List.getElem_mem hi)
end
structure ScrI (w0:World) (t:Nat) (a:Option Addr) (len cap:Nat) (wi:World) (l:List Opr) (g c:Nat) (wr:World):Prop where
 own:wr.ownsRow wi.heap.size 66 9 (.slice (some (g 0)) l.length c) l.length (l.flatMap Opr.cells)
 ok:∀o,o∈l→OprK o
 tp:TP w0 t a len cap wr
 tk:Tock t wi wr
 tl:t<wi.heap.size
section
variable {w0:World} {t:Nat} {a:Option Addr} {len cap:Nat} {wi:World} {l:List Opr} {g c:Nat} {wr w':World}
theorem ScrI.tock (h:ScrI w0 t a len cap wi l g c wr) (ht:Tock t wr w') (hp:TP w0 t a len cap w'):ScrI w0 t a len cap wi l g c w':=
 {h with own:=tock_own ht h.own h.tl,tp:=hp,tk:=h.tk.trans ht}
theorem ScrI.app (h:ScrI w0 t a len cap wi l g c wr) {o:Opr} {g2 c2:Nat} (ho:OprK o) (hown:w'.ownsRow wi.heap.size 66 9 (.slice (some (g2 0)) (l.length+1) c2) (l.length+1) (l.flatMap Opr.cells++o.cells)) (hg:wr.grownBy w' (some g)):
 ScrI w0 t a len cap wi (l++[o]) g2 c2 w':=
 have hb:Below wi wr w':=(Below.refl _ wr).grown hg h.tk.size (fun q hq=>(h.own.lt q hq).1)
 ⟨by rw [opflat_snoc,List.length_append,List.length_singleton];exact hown,fun x hx=>by
  rcases List.mem_append.1 hx with h2|h2
  ·exact h.ok x h2
  ·rw [List.mem_singleton.1 h2];exact ho,h.tp.below hb h.tl,tock_put h.tk hb Nr,h.tl⟩
end
end Go.Proofs.YtimhaidiclbnhaaGreat.Ver
