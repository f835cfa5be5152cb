import Derived.Test.YtimhaidiclbnhaaGreatP07
set_option linter.unusedSimpArgs false
set_option linter.unusedVariables false
set_option maxRecDepth 100000
open Go.ChangeShapes Go.WideShapes Go.ChangeAt Go.RowKit
namespace Go.Proofs.YtimhaidiclbnhaaGreat.Des
theorem step_append_runI {ops:Array Oper} {o:Oper} {a:Act} {w:World} {K:Act→World→Prop} {Q:Exit→Act→World→Prop} {E:Prop} (hg:o.guard=none) (s x:Operand) (t:TypeId)
 (ho:o.op=.call {callee:=.builtin .append,args:=#[s,x],argTypes:=#[t,t]}) (u v:Value) (hs:a.eval s=u) (hx:a.eval x=v) {r:Value} {w':World}
 (hrun:(Builtin.append_ #[t,t] o.type #[u,v]).run Tryz.prog w=.ok r w') (h:K (a.put o.dst r) w'):
 if Region.wanted o (yielded ops a.tmps)=true then Oper.wp Tryz.prog o a w K Q else E:=by
 rw [if_pos (by simp [Region.wanted,hg])];unfold Oper.wp execOp;simp only [ho,resolve,invoke,builtin,Sem.run_bind,Sem.run_pure,Result.andThen_ok,List.map_toArray,List.map_cons,List.map_nil,hs,hx,hrun];exact h
theorem append_ints (W:World) (B:Nat) (a:Option Addr) (c:Nat) (l:List Int) (h:RowOf W a l.length c (ints l)) (hl:l.length≤10000) (hB:B≤W.heap.size):
 ∃a' c' W',(Builtin.append_ #[22,22] 22 #[σ,.slice a l.length c]).run Tryz.prog W=.ok (.slice a' l.length c') W'∧W'.ownsRow B 3 1 (.slice a' l.length c') l.length (ints l)∧W.grownBy W' none∧(∀q,a'=some q→W.heap.size≤q.block):=by
 obtain ⟨i0,hi,hz0,hz1,hz2⟩:=info_parts int_info;rcases h with ⟨rfl,h2,rfl⟩|⟨g,o,rfl,h2,h3,h4,h5⟩
 ·have h3:=List.length_eq_zero_iff.1 h2;subst h3;exact ⟨none,0,W,run_append_owned_none (P:=Tryz.prog) (w:=W) B 22 22 3 i0 1 Tryz.underlying22 hi _ _ _ (World.ownsRow_nil W B 3 1),World.ownsRow_nil W B 3 1,⟨rfl,rfl,rfl,Nat.le_refl _,fun _ _ _=>rfl⟩,fun q e=>by cases e⟩
 ·have hc:∀j u,(ints l)[j]? =some u→W.cell? ((⟨g,o,none⟩:Addr).add j)=some u:=fun j u hj=>by rw [Addr.add_lit];exact h5 j u hj
  obtain ⟨v',W',hr,how,hg,_⟩:=run_append_own (P:=Tryz.prog) W W.heap.size 22 22 3 i0 _ 1 8 Tryz.underlying22 hi hz0 hz1 hz2 rfl b14 _ _ _ (World.ownsRow_nil W W.heap.size 3 1) ⟨g,o,none⟩ l.length c (ints l) (by simp [ints]) hc ints_one b17 b10 Nr;rw [Nat.zero_add,List.nil_append] at how;obtain ⟨a',c',rfl⟩:=own_slice how;exact ⟨a',c',W',hr,own_mono how hB,hg,fun q e=>(how.lt q.block (by rw [e];rfl)).1⟩
theorem append_descs (W:World) (B:Nat) (a:Option Addr) (c:Nat) (l:List Dn) (h:RowOf W a l.length c (oflat l)) (hl:l.length≤10000) (hB:B≤W.heap.size):
 ∃a' c' W',(Builtin.append_ #[80,80] 80 #[σ,.slice a l.length c]).run Tryz.prog W=.ok (.slice a' l.length c') W'∧W'.ownsRow B 126 5 (.slice a' l.length c') l.length (oflat l)∧W.grownBy W' none:=by
 obtain ⟨i0,hi,hz0,hz1,hz2⟩:=info_parts desc_info;rcases h with ⟨rfl,h2,rfl⟩|⟨g,o,rfl,h2,h3,h4,h5⟩
 ·have h3:=List.length_eq_zero_iff.1 h2;subst h3;exact ⟨none,0,W,run_append_owned_none (P:=Tryz.prog) (w:=W) B 80 80 126 i0 5 Tryz.underlying80 hi _ _ _ (World.ownsRow_nil W B 126 5),World.ownsRow_nil W B 126 5,⟨rfl,rfl,rfl,Nat.le_refl _,fun _ _ _=>rfl⟩⟩
 ·have hc:∀j u,(oflat l)[j]? =some u→W.cell? ((⟨g,o,none⟩:Addr).add j)=some u:=fun j u hj=>by rw [Addr.add_lit];exact h5 j u hj
  obtain ⟨v',W',hr,how,hg,_⟩:=run_append_own (P:=Tryz.prog) W B 80 80 126 i0 _ 5 40 Tryz.underlying80 hi hz0 hz1 hz2 rfl b14 _ _ _ (World.ownsRow_nil W B 126 5) ⟨g,o,none⟩ l.length c (oflat l) (oflat_len l) hc oflat_cells b17 b10 hB;rw [Nat.zero_add,List.nil_append] at how;obtain ⟨a',c',rfl⟩:=own_slice how;exact ⟨a',c',W',hr,how,hg⟩
theorem below_grown {W W':World} (h:W.grownBy W' none):Below W W W':=(Below.refl W W).grown h Nr (fun k hk=>by cases hk)
namespace Aqwo
theorem km8 {p : Prop} (h:p:=by
 exact bodyPost_ret (v:=.agg #[.slice y.oa y.o.length y.oc,.slice y.ta y.t.length y.tc]) (by simp [results,Tryz.results50,go_sem,e0,e1]) rfl HPo.out):p:=h
theorem km27 {p : Prop} (h:p:=by
 obtain ⟨a',c',w1,hrun,ho1,hgr⟩:=HC.out W0 hb0 (w.heap.size+2) b10;have hb:Below W0 W0 w1:=below_grown hgr;have HAP:=Hd hrun;have HB0:=Hd hb0;have HS0:=Hd hs0;have HA0:=Hd hB0;have hlt:W0.heap.size≤w1.heap.size:=hb.size;have HB1:Hid (Below (w.heap.size+2) W0 w1):=by rw [←HS0.out];exact hb
 rw [HS0.out] at hlt;exact cm64):p:=h
theorem km64 {p : Prop} (h:p:=by
 have HP1:Hid (∀W,Below (w.heap.size+2) W0 W→W.cell? (w 0 1)=some (.slice ta t.length tc)):=fun W hbW=>(hbW.cell (p:=(w 0 1)) (by show w.heap.size<w.heap.size+2;omega)).trans hp1;have hlt0:w.heap.size<w1.heap.size:=b10;have hne0:w.heap.size≠w1.heap.size:=b10;clear hp1 hb HC hW hB2 how ho1 HB1 hrun hgr hb0 hs0 hB0;simp only [Z2] at hW0;go_enter Tryz.func50,Tryz.ntmps50;go_wp2_with (at_builtin;rw [←hW0];clear hW0;refine Lib.wpList_append_run _ rfl _ _ _ _ rfl _ _ rfl rfl _ _ HAP.out ?_)
 clear HAP hp0;go_wp2_with fail;generalize w1.alloc (Obj.cells #[.slice a' o.length c',σ] 83)=w2 at *;rw [←hO] at *;go_loopw [4] (fun v4 wr=>∃(k:Nat) (y:Dv),k≤t.length∧v4=.int .i64 k∧Hid (y.o=o∧y.t.map Tb.l=(t.map Tb.l).take k)∧Hid (Wk (w.heap.size+2) wr O y)∧Hid (Below (w.heap.size+2) W0 wr)) (fun v4 _=>2000-(intOf v4).toNat)
 case atStart=>exact ⟨0,⟨a',c',o,none,0,[]⟩,Nat.zero_le _,rfl,⟨rfl,rfl⟩,HWk,HB2⟩
 case round=>
  obtain ⟨k,y,hk,rfl,HY,HW,HB⟩:=hrel;have HBW:=Hd (HB0.out.trans (HB.out.mono b10));obtain ⟨x0,x1,x2,x3,x4⟩:=HW.out.box.cc;have hpc:=HP1.out wr HB.out;by_cases hlt2:k<t.length
  ·have hlt':(k:Int)<(t.length:Int):=b10;obtain ⟨g,of,rfl,q1,q2,hcell,_⟩:=HR.out wr HBW.out k hlt2;have hrow:=HRW.out wr.drew HBW.out.drew k hlt2;exact cm94
  ·exact cm8):p:=h
theorem km94 {p : Prop} (h:p:=by
 have HYL:Hid (y.t.length=k):=by
  have:=congrArg List.length HY.out.2;rw [List.length_map,List.length_take,List.length_map] at this;rw [Hid,this];omega
 have hwlt:w.heap.size+2≤wr.heap.size:=HW.out.box.cc.2.2.2.2 |>fun h=>by have:=HW.out.lo;omega
 obtain ⟨aY,cY,w3,hrun1,hown1,hgr1,hfr1⟩:=append_ints wr.drew (w.heap.size+2) ya yc yl hrow hye hwlt;have hb3:Below wr wr w3:=((Below.refl _ wr).drew).trans (below_grown hgr1);have hW3:Wk (w.heap.size+2) w3 O y:=HW.out.below hb3;obtain ⟨yn,hyn⟩:∃yn:Tb,yn=⟨aY,cY,yl⟩:=⟨_,rfl⟩
 have hb4:Below w3 w3 (w3.alloc (Obj.cells #[.slice aY yl.length cY] 22)):=Br.alloc Nr _;have hc4:(w3.alloc (Obj.cells #[.slice aY yl.length cY] 22)).cell? (w3 0 0)=some yn.val:=by rw [hyn];simp [Tb.val]
 have hW4k:Wk (w.heap.size+2) (w3.alloc (Obj.cells #[.slice aY yl.length cY] 22)) O y:=hW3.below hb4;have hs3:wr.heap.size≤w3.heap.size:=hb3.size;have hlt4:w.heap.size+2≤(w3.alloc (Obj.cells #[.slice aY yl.length cY] 22)).heap.size:=by have:=hb4.size;omega
 obtain ⟨aN, cN, wN, hrun, hown, hbox, hbN⟩ := append_tab _ (w.heap.size + 2) O y yn w3.heap.size hW4k hc4 (by rw [hyn]; exact ownsRow_below hown1 hb4) (by
  intro z hz p q hp hq;rw [hyn] at hq;have h1:=hfr1 q hq;have h2:=(HW.out.own.e z hz).lt p.block (by unfold Tb.val;rw [hp];rfl);have h3:wr.drew.heap.size=wr.heap.size:=rfl;omega) (by have:=HYL.out;omega) hlt4
 have HAP1:=Hd hrun1;have HAP:=Hd hrun;have HWN:Hid (Wk (w.heap.size+2) (wN.setCell (O 1) (.slice aN (y.t.length+1) cN)) O ⟨y.oa,y.oc,y.o,aN,cN,y.t++[yn]⟩):=Wk.boxT hown hbox HW.out.lo b11;have HBN:Hid (Below (w.heap.size+2) W0 (wN.setCell (O 1) (.slice aN (y.t.length+1) cN))):=(((HB.out.trans (hb3.mono hwlt)).trans (hb4.mono b10)).trans hbN).setCell (p:=(O 1)) HW.out.lo _;have HYN:Hid ((y.t++[yn]).map Tb.l=(t.map Tb.l).take (k+1)):=by
  rw [Hid,List.map_append,HY.out.2,HTK.out,hyn];rfl
 obtain ⟨z0,z1,z2,z3,z4⟩:=hbox.cc;have hO3:O<w3.heap.size:=b10;obtain ⟨u0,u1,u2,u3,u4⟩:=hW3.box.cc;clear hrun hrun1 hown hbox hbN hown1 hgr1 hfr1 hW3 hW4k hc4 hb4 hb3 hrow;go_wp2_with fail;go_region_law (first|(refine step_append_runI rfl (.const (.slice none 0 0)) (.tmp 22) 22 rfl (.slice none 0 0) (.slice ya yl.length yc) b30 b30 HAP1.out ?_)|(refine step_append_runI rfl (.tmp 17) (.tmp 24) 81 rfl (.slice y.ta y.t.length y.tc) (.slice (some (w3 0 0)) 1 1) b30 b30 HAP.out ?_))
 all_goals
  clear HAP HAP1;go_wp2_with fail;go_roundw
  case rel=>exact ⟨k+1,⟨y.oa,y.oc,y.o,aN,cN,y.t++[yn]⟩,by omega,by go_num,⟨HY.out.1,HYN.out⟩,HWN,HBN⟩
  case measure=>simp [intOf];omega):p:=h
end Aqwo
open Aqwo in
set_option maxHeartbeats 4000000 in
theorem copied_any (x:Dv) (w:World) (h:DIn w x) (hz:DSz x):Calls Tryz.prog 50 #[dVal x] w (ClonePost w x.pl):=by
 have HC:=Hd (fun W hb B hB=>append_descs W B x.oa x.oc x.o (h.below hb).o hz.o hB);exact cm27
end Go.Proofs.YtimhaidiclbnhaaGreat.Des
namespace Go.Proofs.YtimhaidiclbnhaaGreat.Ara
def cloneRen:Go.Shelf.Ren:=⟨fun|41=>130|n=>n,fun|22=>106|23=>139|4=>4|n=>n,fun|n=>n⟩
theorem cloneLaid:Go.Proofs.SlLaysE0.n41 Tryz.prog cloneRen:={
 mixed:=by kernel_rfl
 f41:=⟨Tryz.f130.name,by decide,Tryz.func130.trans (congrArg some b12)⟩
 t4:=Tryz.underlying4
 a4:=Tryz.isAgg4
 z4:=Tryz.sizeOf4
 v4:=Tryz.zeroValue4
 t22:=Tryz.underlying106
 a22:=Tryz.isAgg106
 z22:=Tryz.sizeOf106
 v22:=Tryz.zeroValue106}
theorem cells_one {l:List Ar}:∀u∈flat l,u.oneCell'=true:=by
 exact cl64
theorem ARow.flat_cell {w:World} {g:Nat} {l:List Ar} (h:∀j,j<l.length→Cel w g (j*5) (l.getD j Ar.zero)) (i:Nat) (u:Value) (hu:(flat l)[i]? =some u):w.cell? (g i)=some u:=by
 have hi:i<l.length*5:=by rw [←flat_len];exact (List.getElem?_eq_some_iff.1 hu).1
 have hq:i/5<l.length:=b10;have hr:i%5<5:=Nat.mod_lt _ b10;have he:i/5*5+i%5=i:=b10;rw [←he,flat_at l _ hq _ hr] at hu;have hc:=h _ hq;rw [←he];have h5:i%5=0∨i%5=1∨i%5=2∨i%5=3∨i%5=4:=b10;rcases h5 with h|h|h|h|h<;>rw [h] at hu ⊢<;>simp [Ar.cells] at hu<;>rw [←hu]
 ·exact hc.c0
 ·exact hc.c1
 ·exact hc.c2
 ·exact hc.c3
 ·exact hc.c4
theorem clone_any (B:Nat) (a:Option Addr) (l:List Ar) (cap:Nat) (w:World) (h:ARow B a cap l w) (hl:l.length≤10000):
 Calls Tryz.prog 130 #[.slice a l.length cap] w fun e w'=>∃v',e=.returned v'∧w'.ownsRow w.heap.size 139 5 v' l.length (flat l)∧Below w w w':=by
 rcases h with ⟨rfl,rfl,rfl⟩|⟨g,rfl,h2,h3,h4,h5,h6⟩
 ·refine (AnyE.slices_Clone_nil cloneLaid 0 0 w).mono ?_;rintro e w' ⟨rfl,rfl⟩;exact ⟨_,rfl,⟨by simp [flat],Or.inl ⟨rfl,rfl⟩⟩,Below.refl _ _⟩
 ·obtain ⟨i0,hi,hz0,hz1,hz2⟩:=info_parts area_info;refine (AnyE.slices_Clone cloneLaid i0 _ 5 40 hi hz0 hz1 hz2 rfl b14 Tryz.sizeOf139 g 0 l.length cap (flat l) w (flat_len l) b17 b10 (fun j u hj=>by rw [Nat.zero_add];exact ARow.flat_cell h6 j u hj) cells_one).mono ?_;rintro e w' ⟨v',rfl,ho,_,hb⟩;exact ⟨v',rfl,ho,hb⟩
theorem Blk.setOther {W:World} {g:Nat} {a:Ar} (h:Blk W g a) (g2 o:Nat) (v:Value) (hne:g≠g2):Blk (W.setCell (g2 o) v) g a:=
 ⟨by simpa [World.setCell] using h.hi,by rw [World.cell?_setCell_other _ _ _ _ b69];exact h.c0,by rw [World.cell?_setCell_other _ _ _ _ b69];exact h.c1,by rw [World.cell?_setCell_other _ _ _ _ b69];exact h.c2,by rw [World.cell?_setCell_other _ _ _ _ b69];exact h.c3,by rw [World.cell?_setCell_other _ _ _ _ b69];exact h.c4,fun i hi=>by rw [World.frozen?_setCell];exact h.f i hi⟩
theorem Blk.two (w:World) (s c f p:Int) (b:Bool) (s' c' f' p':Int) (b':Bool):
 Blk ((w.alloc (.cells #[s,c,f,p,.bool b] 139)).alloc (.cells #[s',c',f',p',.bool b'] 139)) w.heap.size ⟨s,c,f,p,b⟩∧
 Blk ((w.alloc (.cells #[s,c,f,p,.bool b] 139)).alloc (.cells #[s',c',f',p',.bool b'] 139)) (w.heap.size+1) ⟨s',c',f',p',b'⟩:=by
 have h:=Blk.new (w.alloc (.cells #[s,c,f,p,.bool b] 139)) s' c' f' p' b';rw [show (w.alloc (.cells #[s,c,f,p,.bool b] 139)).heap.size=w.heap.size+1 from by simp] at h;exact ⟨(Blk.new w s c f p b).below (Br.alloc Nr _),h⟩
def partV (a:Ar) (x y:Int):Option Ar:=if max x a.st≥min y (a.st+a.cn) then none else some ⟨max x a.st,min y (a.st+a.cn)-max x a.st,a.fi,a.pg+(max x a.st-a.st),a.wr⟩
set_option maxHeartbeats 2000000 in
theorem part_any (a:Ar) (x y:Int) (w:World) (ha:rightB a=true) (hx:0≤x) (hx2:x≤1000) (hy:0≤y) (hy2:y≤1000):
 Calls Tryz.prog 136 #[arVal a,x,y] w (RetW (.tuple #[arVal (optA (partV a x y)),.bool (partV a x y).isSome]) w):=by
 have hr:=rightB_iff.1 ha;clear ha;obtain ⟨s,c,f,p,b⟩:=a;unfold arVal;simp only at hr;obtain ⟨e1,e2,e3,e4,e5,e6,e7⟩:=hr;have HE:=Hd (fun w=>end_any ⟨s,c,f,p,b⟩ w b42 b42);simp only at HE;have hP:partV ⟨s,c,f,p,b⟩ x y=if max x s≥min y (s+c) then none else some ⟨max x s,min y (s+c)-max x s,f,p+(max x s-s),b⟩:=rfl
 have HP:=Hd hP;clear hP;generalize partV ⟨s,c,f,p,b⟩ x y=o at *;have hlo:∃lo,lo=max x s:=⟨_,rfl⟩
 have hhi:∃hi,hi=min y (s+c):=⟨_,rfl⟩
 obtain ⟨lo,hlo⟩:=hlo;obtain ⟨hi,hhi⟩:=hhi;have b1:0≤lo:=b10;have b2:lo≤1000:=b10;have b3:0≤hi:=b10;have b4:hi≤1000:=b10;rw [←hlo,←hhi] at HP;go_enter Tryz.func136,Tryz.ntmps136;go_wp2_with fail;obtain ⟨h1,h2⟩:=Blk.two w s c f p b 0 0 0 0 false;have HB:Hid (Below w w ((w.alloc (Obj.cells #[s,c,f,p,.bool b] 139)).alloc (Obj.cells #[I,I,I,I,.bool false] 139))):=((Below.refl _ w).alloc Nr _).alloc b11 _;generalize (w.alloc (Obj.cells #[s,c,f,p,.bool b] 139)).alloc (Obj.cells #[I,I,I,I,.bool false] 139)=W0 at *;have c0:=h1.c0;have c1:=h1.c1;have c2:=h1.c2;have c3:=h1.c3;have c4:=h1.c4;simp only at c0 c1 c2 c3 c4;have HPB:=Hd (h1.below Br.drew);have HZ:=Hd (h2.below Br.drew);replace HB:=Hd HB.out.drew;clear h1 h2;go_region_held3 (fun w'=>w'.cell? (w 0 0)=some (s:U)∧w'.cell? (w 0 1)=some (c:U)∧w'.cell? (w 0 2)=some (f:U)∧w'.cell? (w 0 3)=some (p:U)∧w'.cell? (w 0 4)=some (.bool b)) (go_keep) (first|(go_at_call 133;refine (HE.out _).mono ?_;rintro e w3 ⟨rfl,hb⟩;replace HPB:=Hd (HPB.out.below hb);replace HZ:=Hd (HZ.out.below hb);replace HB:=Hd (HB.out.trans (hb.mono HB.out.size));have j0:=HPB.out.c0;have j1:=HPB.out.c1;have j2:=HPB.out.c2;have j3:=HPB.out.c3;have j4:=HPB.out.c4;simp only at j0 j1 j2 j3 j4))
 all_goals
  clear c0 c1 c2 c3 c4;rw [←hlo,←hhi];clear hlo hhi hb;have y0:=HPB.out.f 0 b10;have y1:=HPB.out.f 1 b10;have y2:=HPB.out.f 2 b10;have y3:=HPB.out.f 3 b10;have y4:=HPB.out.f 4 b10;have z0:=HZ.out.c0;have z1:=HZ.out.c1;have z2:=HZ.out.c2;have z3:=HZ.out.c3;have z4:=HZ.out.c4;have x0:=HZ.out.f 0 b10;have x1:=HZ.out.f 1 b10;have x2:=HZ.out.f 2 b10;have x3:=HZ.out.f 3 b10;have x4:=HZ.out.f 4 b10;simp only at z0 z1 z2 z3 z4;by_cases hge:lo≥hi
  ·rw [if_pos hge] at HP;have hv:=HP.out;subst hv;go_wp2_with fail;have HD:=HZ.out.put 0 0 0 0 false;have HBD:=HB.out.trans (put5w_below (B:=w.heap.size) _ (w.heap.size+1) 0 0 0 0 false (Nat.le_succ _));unfold put5w at HD HBD;generalize (((((w3).setCell (w 1 0) I).setCell (w 1 1) I).setCell (w 1 2) I).setCell (w 1 3) I).setCell (w 1 4) (Value.bool false)=W9 at *;have d0:=HD.c0;have d1:=HD.c1;have d2:=HD.c2;have d3:=HD.c3;have d4:=HD.c4;simp only at d0 d1 d2 d3 d4;refine bodyPost_ret (v:=.tuple #[.agg #[I,I,I,I,.bool false],.bool false]) (by simp [results,Tryz.results136,go_sem,d0,d1,d2,d3,d4]) rfl ⟨by rw [show optA none=Ar.zero from rfl];rfl,HBD⟩
  ·rw [if_neg hge] at HP;have hv:=HP.out;subst hv;have hw1:IntKind.i64.wrap (lo-s)=lo-s:=IntWalk.i64_in _ b10;have hw2:IntKind.i64.wrap (p+(lo-s))=p+(lo-s):=IntWalk.i64_in _ b10;have hw3:IntKind.i64.wrap (hi-lo)=hi-lo:=IntWalk.i64_in _ b10;have hlt:lo<hi:=b10;go_wp2_with fail;have HZ3:=((HZ.out.setOther w.heap.size 3 (Value.int IntKind.i64 (p+(lo-s))) b10).setOther w.heap.size 0 (Value.int IntKind.i64 lo) b10).setOther w.heap.size 1 (Value.int IntKind.i64 (hi-lo)) b10;have HB3:=((HB.out.setCell (p:=(w 0 3)) Nr (Value.int IntKind.i64 (p+(lo-s)))).setCell (p:=(w 0 0)) Nr (Value.int IntKind.i64 lo)).setCell (p:=(w 0 1)) Nr (Value.int IntKind.i64 (hi-lo));generalize ((w3.setCell (w 0 3) (.int .i64 (p+(lo-s)))).setCell (w 0 0) (.int .i64 lo)).setCell (w 0 1) (.int .i64 (hi-lo))=W4 at *;have HD:=HZ3.put lo (hi-lo) f (p+(lo-s)) b;have HBD:=HB3.trans (put5w_below (B:=w.heap.size) W4 (w.heap.size+1) lo (hi-lo) f (p+(lo-s)) b (Nat.le_succ _));unfold put5w at HD HBD;generalize ((((W4.setCell (w 1 0) (.int .i64 lo)).setCell (w 1 1) (.int .i64 (hi-lo))).setCell (w 1 2) f).setCell (w 1 3) (.int .i64 (p+(lo-s)))).setCell (w 1 4) (Value.bool b)=W9 at *;have d0:=HD.c0;have d1:=HD.c1;have d2:=HD.c2;have d3:=HD.c3;have d4:=HD.c4;simp only at d0 d1 d2 d3 d4;refine bodyPost_ret (v:=.tuple #[.agg #[.int .i64 lo,.int .i64 (hi-lo),f,.int .i64 (p+(lo-s)),.bool b],.bool true]) (by simp [results,Tryz.results136,go_sem,d0,d1,d2,d3,d4]) rfl ⟨rfl,HBD⟩
def partsOf (s n:Int) (a:Ar):List Ar:=(partV a 0 s).toList++(partV a (s+n) 64).toList
def outTo (l:List Ar) (s n:Int) (k:Nat):List Ar:=(l.take k).flatMap (partsOf s n)
def unmapV (l:List Ar) (s n:Int):List Ar×Int:=
 if checkV l=false then (l,1) else if withinB s n 64=false then (l,2) else if 8<(outTo l s n l.length).length then (l,3) else (outTo l s n l.length,0)
theorem outTo_succ (l:List Ar) (s n:Int) (k:Nat) (hk:k<l.length):outTo l s n (k+1)=outTo l s n k++(partV (l.getD k Ar.zero) 0 s).toList++(partV (l.getD k Ar.zero) (s+n) 64).toList:=by
 unfold outTo;rw [List.take_succ_eq_append_getElem hk,List.flatMap_append,show l.getD k Ar.zero=l[k] from by simp [List.getD,hk]];simp [partsOf]
theorem opt_len (o:Option Ar):o.toList.length≤1:=by cases o<;>simp
theorem outTo_len (l:List Ar) (s n:Int) (k:Nat):(outTo l s n k).length≤2*k:=by
 unfold outTo
 induction k with
 |zero=>simp
 |succ k ih=>
  by_cases hk:k<l.length
  ·have h:=outTo_succ l s n k hk;unfold outTo at h;rw [h,List.length_append,List.length_append];have h1:=opt_len (partV (l.getD k Ar.zero) 0 s);have h2:=opt_len (partV (l.getD k Ar.zero) (s+n) 64);omega
  ·rw [List.take_of_length_le b10];rw [List.take_of_length_le b10] at ih;omega
theorem cell_snd (w:World) (A:Obj) (C:Array Value) (o:Nat) (v:Value) (h:C[o]? =some v):((w.alloc A).alloc (.cells C 139)).cell? (w 1 o)=some v:=by
 have:((w.alloc A).alloc (.cells C 139)).heap[w.heap.size+1]? =some (.cells C 139):=by
  show ((w.heap.push A).push (.cells C 139))[w.heap.size+1]? =_;rw [Array.getElem?_push,if_pos b11]
 simp only [World.cell?];rw [this];exact h
theorem part_some {a x:Ar} {u v:Int} (h:partV a u v=some x):1≤x.cn:=by
 unfold partV at h;split at h
 ·cases h
 ·cases h;show 1≤min v (a.st+a.cn)-max u a.st;omega
theorem own_below {w w':World} {B:Nat} {e:TypeId} {size n:Nat} {v:Value} {xs:List Value} (h:w.ownsRow B e size v n xs) (hb:Below w w w'):w'.ownsRow B e size v n xs:=by
 exact cl76
namespace A6vr
theorem km19 {p : Prop} (h:p:=by
 have HV3:Hid (checkV l=true→withinB s n 64=true→unmapV l s n=if 8<(outTo l s n l.length).length then (l,3) else (outTo l s n l.length,0)):=fun hc hw=>by unfold unmapV;rw [if_neg b40,if_neg (by rw [hw];simp)]
 have HW:=Hd (fun w=>within_any s n 64 w b10 b10);have HWI:Hid (withinB s n 64=true→0≤s∧1≤n∧s+n≤64):=fun hw=>by
  unfold withinB at hw;have:=of_decide_eq_true hw;omega
 clear h;go_enter Tryz.func109,Tryz.ntmps109;go_wp2_with fail;refine HCK.out.mono ?_;rintro e w1 ⟨rfl,hb⟩;have HB:=Hd hb;clear hb HCK;cases hcv:checkV l with
 |false=>
  have hv:=HV1.out hcv;have HVV:=Hd hv;clear HV1 HV2 HV3 HR hv;exact cl68
 |true=>
  have HR2:=Hd (HR.out hcv);have HV4:=Hd (HV2.out hcv);have HV5:=Hd (HV3.out hcv);clear HV1 HV2 HV3 HR hcv;go_wp2_with fail;refine (HW.out _).mono ?_;rintro e w2 ⟨rfl,rfl⟩;cases hwi:withinB s n 64 with
  |false=>
   have HVV:=Hd (HV4.out hwi);clear HV4 HV5;exact cl68
  |true=>
   have HVV:=Hd (HV5.out hwi);obtain ⟨s0,n0,sn⟩:=HWI.out hwi;clear HV4 HV5 HWI HW hwi;go_wp2_with fail;obtain ⟨i0,hi,hz0,hz1,hz2⟩:=info_parts area_info;go_loopw [8,30] (fun v8 v30 wr=>∃k:Nat,k≤l.length∧v30=.int .i64 k∧Hid (Below w w wr)∧Hid (wr.ownsRow w.heap.size 139 5 v8 (outTo l s n k).length (flat (outTo l s n k)))) (fun _ v30 _=>200-(intOf v30).toNat)
   case atStart=>exact ⟨0,Nat.zero_le _,rfl,HB,World.ownsRow_nil _ _ _ _⟩
   case round=>
    clear HB;obtain ⟨k,hk,rfl,HB,HO⟩:=hrel;by_cases hlt:k<l.length
    ·have hlt':(k:Int)<(l.length:Int):=b10;obtain ⟨g,rfl,hg,hcap,hcel⟩:=HA.out _ HB.out k hlt;have hre:=HR2.out k hlt;have hol:=outTo_len l s n k;have hos:=outTo_succ l s n k hlt;clear HA HVV;generalize l.getD k Ar.zero=e at *;have hp1:=fun w=>part_any e 0 s w hre b10 b10 b10 b10;have hp2:=fun w=>part_any e (s+n) 64 w hre b10 b10 b10 b10;have hn1:∀x,partV e 0 s=some x→1≤x.cn:=fun x h=>part_some h;have hn2:∀x,partV e (s+n) 64=some x→1≤x.cn:=fun x h=>part_some h;generalize partV e 0 s=o1 at *;generalize partV e (s+n) 64=o2 at *;have HOS:=Hd hos;clear hos hre;obtain ⟨y1,t1,ey1,et1,H1⟩:∃y1 t1,optA o1=y1∧o1.isSome=t1∧Hid ((o1=none∧y1=Ar.zero)∨(o1=some y1∧1≤y1.cn)):=by
      cases o1 with
      |none=>exact ⟨_,_,rfl,rfl,Or.inl ⟨rfl,rfl⟩⟩
      |some x=>exact ⟨x,_,rfl,rfl,Or.inr ⟨rfl,hn1 x rfl⟩⟩
     obtain ⟨y2,t2,ey2,et2,H2⟩:∃y2 t2,optA o2=y2∧o2.isSome=t2∧Hid ((o2=none∧y2=Ar.zero)∨(o2=some y2∧1≤y2.cn)):=by
      cases o2 with
      |none=>exact ⟨_,_,rfl,rfl,Or.inl ⟨rfl,rfl⟩⟩
      |some x=>exact ⟨x,_,rfl,rfl,Or.inr ⟨rfl,hn2 x rfl⟩⟩
     rw [ey1,et1] at hp1;rw [ey2,et2] at hp2;clear ey1 et1 ey2 et2 hn1 hn2;obtain ⟨s1,c1',f1,p1,b1⟩:=y1;obtain ⟨s2,c2',f2,p2,b2⟩:=y2;obtain ⟨es,ec,ef,ep,eb⟩:=e;obtain ⟨k0,k1,k2,k3,k4⟩:=hcel;unfold arVal at hp1 hp2;simp only at k0 k1 k2 k3 k4 hp1 hp2;have HP1:=Hd hp1;have HP2:=Hd hp2;clear hp1 hp2;have hw1:IntKind.i64.wrap (s+n)=s+n:=IntWalk.i64_in _ b10;generalize outTo l s n k=L at *;have hbl:=Blk.new wr es ec ef ep eb;exact cm47
    ·obtain rfl:k=l.length:=b10;obtain ⟨b,c,rfl,hn,hr⟩:=ARow.ofOwn HO.out;by_cases h8:8<(outTo l s n l.length).length
     ·have hv:=HVV.out;rw [if_pos h8] at hv;have HV6:=Hd hv;have h9:(8:Int)<((outTo l s n l.length).length:Int):=b10;clear hv HVV;go_wp2_with fail;refine (HCL.out _ HB.out).mono ?_;rintro e w2 ⟨b',c',rfl,hr',hb⟩;replace HB:=Hd (HB.out.trans (hb.mono HB.out.size));go_wp2_with fail;go_ret2;exact ⟨b',c',by rw [HV6.out];rfl,by rw [HV6.out];exact hr',HB.out⟩
     ·have hv:=HVV.out;rw [if_neg h8] at hv;have HV6:=Hd hv;have h9:((outTo l s n l.length).length:Int)≤8:=b10;clear hv HVV;go_wp2_with fail;go_ret2;exact ⟨b,c,by rw [HV6.out];rfl,by rw [HV6.out];exact hr,HB.out⟩):p:=h
theorem km38 {p : Prop} (h:p:=by
 have HCK:=Hd (check_any B a l cap w h hl);have HCL:Hid (∀W,Below w w W→Calls Tryz.prog 130 #[.slice a l.length cap] W fun e w'=>∃b c,e=.returned (.slice b l.length c)∧ARow w.heap.size b c l w'∧Below W W w'):=by
  intro W hb;refine (clone_any B a l cap W (h.below hb) b10).mono ?_;rintro e w' ⟨v,rfl,ho,hb2⟩;obtain ⟨b,c,rfl,_,hr⟩:=ARow.ofOwn ho;exact ⟨b,c,rfl,hr.mono hb.size,hb2⟩
 exact cm19):p:=h
theorem km47 {p : Prop} (h:p:=by
 generalize wr.alloc (Obj.cells #[es,ec,ef,ep,.bool eb] 139)=w3 at *;generalize wr.heap.size=A at *;clear HB HO k0 k1 k2 k3 k4;refine (HP1.out _).mono ?_;rintro e w4 ⟨rfl,hb⟩;replace HB2:=Hd (HB2.out.trans (hb.mono HB2.out.size));replace HO2:=Hd (own_below HO2.out hb);replace hbl:=hbl.below hb;clear hb;have c0:=hbl.c0;have c1:=hbl.c1;have c2:=hbl.c2;have c3:=hbl.c3;have c4:=hbl.c4;simp only at c0 c1 c2 c3 c4;have hA4:=hbl.hi;have hA5:A≠w4.heap.size:=b10;have hb1:=Blk.new w4 s1 c1' f1 p1 b1;have HB5:=Hd (HB2.out.alloc HB2.out.size (Obj.cells #[s1,c1',f1,p1,.bool b1] 139));have HO5:=Hd (HO2.out.alloc (Obj.cells #[s1,c1',f1,p1,.bool b1] 139));go_wp2_with fail;generalize w4.alloc (Obj.cells #[s1,c1',f1,p1,.bool b1] 139)=w5 at *;generalize w4.heap.size=A1 at *;clear HB2 HO2 hbl c0 c1 c2 c3 c4 hA4 hA5;refine (HP2.out _).mono ?_;rintro e w6 ⟨rfl,hb⟩;replace HB5:=Hd (HB5.out.trans (hb.mono HB5.out.size));replace HO5:=Hd (own_below HO5.out hb);replace hb1:=hb1.below hb;clear hb;have c0:=hb1.c0;have c1:=hb1.c1;have c2:=hb1.c2;have c3:=hb1.c3;have c4:=hb1.c4;simp only at c0 c1 c2 c3 c4;have hA4:=hb1.hi;have hA5:A1≠w6.heap.size:=b10;have hb2:=Blk.new w6 s2 c2' f2 p2 b2;have HB7:=Hd (HB5.out.alloc HB5.out.size (Obj.cells #[s2,c2',f2,p2,.bool b2] 139));have HO7:=Hd (HO5.out.alloc (Obj.cells #[s2,c2',f2,p2,.bool b2] 139));go_wp2_with fail;have HC1:Hid (Cel ((w6.alloc (Obj.cells #[s2,c2',f2,p2,.bool b2] 139)).alloc (Obj.cells #[s1,c1',f1,p1,.bool b1,s2,c2',f2,p2,.bool b2] 139)) (w6.heap.size+1) 0 ⟨s1,c1',f1,p1,b1⟩):=⟨cell_snd _ _ _ _ _ rfl,cell_snd _ _ _ _ _ rfl,cell_snd _ _ _ _ _ rfl,cell_snd _ _ _ _ _ rfl,cell_snd _ _ _ _ _ rfl⟩
 have HC2:Hid (Cel ((w6.alloc (Obj.cells #[s2,c2',f2,p2,.bool b2] 139)).alloc (Obj.cells #[s1,c1',f1,p1,.bool b1,s2,c2',f2,p2,.bool b2] 139)) (w6.heap.size+1) 5 ⟨s2,c2',f2,p2,b2⟩):=⟨cell_snd _ _ _ _ _ rfl,cell_snd _ _ _ _ _ rfl,cell_snd _ _ _ _ _ rfl,cell_snd _ _ _ _ _ rfl,cell_snd _ _ _ _ _ rfl⟩
 have HNE:Hid (∀q,u8.ownBlock=some q→q≠w6.heap.size+1):=fun q hq=>by have:=(HO5.out.lt q hq).2;omega
 have HB8:=Hd (HB7.out.alloc HB7.out.size (Obj.cells #[s1,c1',f1,p1,.bool b1,s2,c2',f2,p2,.bool b2] 139));have HO8:=Hd (HO7.out.alloc (Obj.cells #[s1,c1',f1,p1,.bool b1,s2,c2',f2,p2,.bool b2] 139));have HCS:Hid (w6.heap.size+1<((w6.alloc (Obj.cells #[s2,c2',f2,p2,.bool b2] 139)).alloc (Obj.cells #[s1,c1',f1,p1,.bool b1,s2,c2',f2,p2,.bool b2] 139)).heap.size):=by unfold Hid;simp
 clear HB5 HB7 HO5 HO7 hb1 hb2 c0 c1 c2 c3 c4 hA4 hA5;generalize (w6.alloc (Obj.cells #[s2,c2',f2,p2,.bool b2] 139)).alloc (Obj.cells #[s1,c1',f1,p1,.bool b1,s2,c2',f2,p2,.bool b2] 139)=w8 at *;generalize w6.heap.size+1=C at *;go_loopw [8,52] (fun v8 v52 wx=>Hid (Below w w wx)∧C<wx.heap.size∧((v52=.int .i64 0∧Hid (wx.ownsRow w.heap.size 139 5 v8 L.length (flat L))∧Hid (Cel wx C 0 ⟨s1,c1',f1,p1,b1⟩)∧Hid (Cel wx C 5 ⟨s2,c2',f2,p2,b2⟩)∧Hid (∀q,v8.ownBlock=some q→q≠C))∨(v52=.int .i64 1∧Hid (wx.ownsRow w.heap.size 139 5 v8 (L++o1.toList).length (flat (L++o1.toList)))∧Hid (Cel wx C 5 ⟨s2,c2',f2,p2,b2⟩))∨(v52=.int .i64 2∧Hid (wx.ownsRow w.heap.size 139 5 v8 (L++o1.toList++o2.toList).length (flat (L++o1.toList++o2.toList)))))) (fun _ v52 _=>5-(intOf v52).toNat)
 case atStart=>exact ⟨HB8,HCS.out,Or.inl ⟨rfl,HO8,HC1,HC2,HNE⟩⟩
 case round=>
  clear HB8 HO8 HC1 HC2 HNE HCS;obtain ⟨HB,hCs,hcase⟩:=hrel;rcases hcase with ⟨rfl,HO,HC1,HC2,HNE⟩|⟨rfl,HO,HC2⟩|⟨rfl,HO⟩
  ·have k0:=HC1.out.c0;have k1:=HC1.out.c1;have k2:=HC1.out.c2;have k3:=HC1.out.c3;have k4:=HC1.out.c4;simp only at k0 k1 k2 k3 k4;have hbs:=HB.out.size;have hCne:some C≠u8.ownBlock:=fun h=>HNE.out C h.symm rfl;rcases H1.out with ⟨ho,hy⟩|⟨ho,hy⟩
   ·simp only [Ar.zero,Ar.mk.injEq] at hy;obtain ⟨rfl,rfl,rfl,rfl,rfl⟩:=hy;subst ho;go_wp2_with fail;go_roundw
    case rel=>exact ⟨HB.out.alloc HB.out.size _,by simp;omega,Or.inr (Or.inl ⟨by go_num,by rw [Option.toList_none,List.append_nil];exact HO.out.alloc _,HC2.out.eq (fun i=>(Below.refl wr wr).alloc Nr _ |>.cell (p:=(C i)) hCs)⟩)⟩
    case measure=>simp [intOf]
   ·have hyn:¬c1'=0:=b10;subst ho;clear H1;have hLl:L.length≤300:=b10;go_wp2_with (at_builtin;refine wpList_append_own _ rfl _ _ 106 rfl w.heap.size 139 i0 _ 5 40 Tryz.underlying106 hi hz0 hz1 hz2 rfl b14 _ _ _ rfl ((HO.out.alloc _).alloc _) ⟨wr.heap.size+1,0,none⟩ 1 1 [s1,c1',f1,p1,.bool b1] rfl rfl ?c1 ?c2 ?c3 ?c4 ?c5 ?_)
    case c1=>
     exact cl102
    case c2=>
     intro u hu;simp at hu;rcases hu with rfl|rfl|rfl|rfl|rfl<;>rfl
    case c3=>unfold maxLen;omega
    case c4=>omega
    case c5=>simp;omega
    intro v' w' hown' hgrow _;have HB3:=Hd (((HB.out.alloc HB.out.size (Obj.cells #[s1,c1',f1,p1,.bool b1] 139)).alloc b16 (Obj.cells #[s1,c1',f1,p1,.bool b1] 139)).grown hgrow b16 (fun x hx=>(HO.out.lt x hx).1));have hCs3:C<w'.heap.size:=Nat.lt_of_lt_of_le b16 hgrow.size;have HO3:Hid (w'.ownsRow w.heap.size 139 5 v' (L++(some (Ar.mk s1 c1' f1 p1 b1)).toList).length (flat (L++(some (Ar.mk s1 c1' f1 p1 b1)).toList))):=by
     unfold Hid;rw [flat_append,List.length_append];exact hown'
    have hcel3:∀i,w'.cell? (C i)=wr.cell? (C i):=fun i=>by
     rw [World.cell?_of_block (w:=(wr.alloc (Obj.cells #[s1,c1',f1,p1,.bool b1] 139)).alloc (Obj.cells #[s1,c1',f1,p1,.bool b1] 139)) (a:=⟨C,i,none⟩) (hgrow.block C b16 hCne)];exact ((Below.refl wr wr).alloc Nr (Obj.cells #[s1,c1',f1,p1,.bool b1] 139) |>.alloc b11 (Obj.cells #[s1,c1',f1,p1,.bool b1] 139)).cell (p:=(C i)) hCs
    clear hgrow hown';go_wp2_with fail;go_roundw
    case rel=>exact ⟨HB3,hCs3,Or.inr (Or.inl ⟨by go_num,HO3,HC2.out.eq hcel3⟩)⟩
    case measure=>simp [intOf]
  ·have k0:=HC2.out.c0;have k1:=HC2.out.c1;have k2:=HC2.out.c2;have k3:=HC2.out.c3;have k4:=HC2.out.c4;simp only at k0 k1 k2 k3 k4;have hbs:=HB.out.size;rcases H2.out with ⟨ho,hy⟩|⟨ho,hy⟩
   ·simp only [Ar.zero,Ar.mk.injEq] at hy;obtain ⟨rfl,rfl,rfl,rfl,rfl⟩:=hy;subst ho;go_wp2_with fail;go_roundw
    case rel=>exact ⟨HB.out.alloc HB.out.size _,by simp;omega,Or.inr (Or.inr ⟨by go_num,by rw [Option.toList_none,List.append_nil];exact HO.out.alloc _⟩)⟩
    case measure=>simp [intOf]
   ·have hyn:¬c2'=0:=b10;subst ho;clear H2;have hLl:(L++o1.toList).length≤300:=by have:=opt_len o1;simp only [List.length_append];omega
    have hLeq:Hid True:=trivial;go_wp2_with (at_builtin;refine wpList_append_own _ rfl _ _ 106 rfl w.heap.size 139 i0 _ 5 40 Tryz.underlying106 hi hz0 hz1 hz2 rfl b14 _ _ _ rfl ((HO.out.alloc _).alloc _) ⟨wr.heap.size+1,0,none⟩ 1 1 [s2,c2',f2,p2,.bool b2] rfl rfl ?c1 ?c2 ?c3 ?c4 ?c5 ?_)
    case c1=>
     exact cl102
    case c2=>
     intro u hu;simp at hu;rcases hu with rfl|rfl|rfl|rfl|rfl<;>rfl
    case c3=>unfold maxLen;omega
    case c4=>omega
    case c5=>simp;omega
    intro v' w' hown' hgrow _;have HB3:=Hd (((HB.out.alloc HB.out.size (Obj.cells #[s2,c2',f2,p2,.bool b2] 139)).alloc b16 (Obj.cells #[s2,c2',f2,p2,.bool b2] 139)).grown hgrow b16 (fun x hx=>(HO.out.lt x hx).1));have hCs3:C<w'.heap.size:=Nat.lt_of_lt_of_le b16 hgrow.size;have HO3:Hid (w'.ownsRow w.heap.size 139 5 v' ((L++o1.toList)++(some (Ar.mk s2 c2' f2 p2 b2)).toList).length (flat ((L++o1.toList)++(some (Ar.mk s2 c2' f2 p2 b2)).toList))):=by
     unfold Hid;rw [flat_append,List.length_append,List.length_append];exact hown'
    clear hgrow hown';go_wp2_with fail;go_roundw
    case rel=>exact ⟨HB3,hCs3,Or.inr (Or.inr ⟨by go_num,HO3⟩)⟩
    case measure=>simp [intOf]
  ·exact cl46):p:=h
end A6vr
open A6vr in
set_option maxHeartbeats 8000000 in
theorem unmap_any (B:Nat) (a:Option Addr) (l:List Ar) (cap:Nat) (s n:Int) (w:World) (h:ARow B a cap l w) (hl:l.length≤100):
 Calls Tryz.prog 109 #[.slice a l.length cap,s,n] w fun e w'=>∃b c,e=.returned (.tuple #[.slice b (unmapV l s n).1.length c,(unmapV l s n).2])∧ARow w.heap.size b c (unmapV l s n).1 w'∧Below w w w':=by
 exact cm38
end Go.Proofs.YtimhaidiclbnhaaGreat.Ara
