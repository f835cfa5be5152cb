import Derived.Test.YtimhaidiclbnhaaGreatP06
set_option linter.unusedSimpArgs false
set_option linter.unusedVariables false
set_option maxRecDepth 100000
open Go.ChangeShapes Go.WideShapes Go.ChangeAt Go.RowKit
namespace Go.Proofs.YtimhaidiclbnhaaGreat.Des
def cloneRen:Go.Shelf.Ren:=⟨fun|41=>138|n=>n,fun|22=>80|23=>126|4=>4|n=>n,fun|n=>n⟩
theorem cloneLaid:Go.Proofs.SlLaysE0.n41 Tryz.prog cloneRen:={
 mixed:=by kernel_rfl
 f41:=⟨Tryz.f138.name,by decide,Tryz.func138.trans (congrArg some b12)⟩
 t4:=Tryz.underlying4
 a4:=Tryz.isAgg4
 z4:=Tryz.sizeOf4
 v4:=Tryz.zeroValue4
 t22:=Tryz.underlying80
 a22:=Tryz.isAgg80
 z22:=Tryz.sizeOf80
 v22:=Tryz.zeroValue80}
theorem cloneO_any (a:Option Addr) (l:List Dn) (cap:Nat) (w:World) (h:RowOf w a l.length cap (oflat l)) (hl:l.length≤10000):
 Calls Tryz.prog 138 #[.slice a l.length cap] w fun e w'=>∃a' c',e=.returned (.slice a' l.length c')∧w'.ownsRow w.heap.size 126 5 (.slice a' l.length c') l.length (oflat l)∧Below w w w':=by
 rcases h with ⟨rfl,h2,rfl⟩|⟨g,o,rfl,h2,h3,h4,h5⟩
 ·have h3:=List.length_eq_zero_iff.1 h2;subst h3;refine (AnyE.slices_Clone_nil cloneLaid 0 0 w).mono ?_;rintro e w' ⟨rfl,rfl⟩;exact ⟨none,0,rfl,⟨by simp [oflat],Or.inl ⟨rfl,rfl⟩⟩,Below.refl _ _⟩
 ·obtain ⟨i0,hi,hz0,hz1,hz2⟩:=info_parts desc_info;refine (AnyE.slices_Clone cloneLaid i0 _ 5 40 hi hz0 hz1 hz2 rfl b14 Tryz.sizeOf126 g o l.length cap (oflat l) w (oflat_len l) b17 b10 (fun j u hj=>h5 j u hj) oflat_cells).mono ?_;rintro e w' ⟨v',rfl,ho,_,hb⟩;obtain ⟨a',c',rfl⟩:=own_slice ho;exact ⟨a',c',rfl,ho,hb⟩
theorem DOwn.boxed {B b:Nat} {W:World} {x:Dv} (h:DOwn B W x) (ty:∃cur,W.heap[b]? =some (.cells cur 83 (0,0))) (o:Nat) (v:Value):DOwn B (W.setCell (b o) v) x:=
 ⟨own_apart h.o _ _ (own_ne2 h.o ty b14),own_apart h.t _ _ (own_ne2 h.t ty b14),fun y hy=>own_apart (h.e y hy) _ _ (own_ne2 (h.e y hy) ty b14),h.d⟩
theorem Wk.boxT {B b:Nat} {W:World} {x:Dv} {a:Option Addr} {c:Nat} {l:List Tb} {n:Nat} (own:DOwn B W ⟨x.oa,x.oc,x.o,a,c,l⟩) (box:Bx W b x) (lo:B≤b) (hn:l.length=n):Wk B (W.setCell (b 1) (.slice a n c)) b ⟨x.oa,x.oc,x.o,a,c,l⟩:=
 ⟨own.boxed box.ty _ _,box.setT a c l n hn,lo⟩
theorem Wk.boxO {B b:Nat} {W:World} {x:Dv} {a:Option Addr} {c:Nat} {l:List Dn} {n:Nat} (own:DOwn B W ⟨a,c,l,x.ta,x.tc,x.t⟩) (box:Bx W b x) (lo:B≤b) (hn:l.length=n):Wk B (W.setCell (b 0) (.slice a n c)) b ⟨a,c,l,x.ta,x.tc,x.t⟩:=
 ⟨own.boxed box.ty _ _,box.setO a c l n hn,lo⟩
theorem size3:(Tryz.prog.info? 3).map (·.size)=some 1:=by kernel_rfl
theorem own_whole {W:World} {B g n:Nat} {l:List Int} (h:W.heap[g]? =some (.cells (ints l).toArray 3 (0,0))) (hB:B≤g) (hn:l.length=n) (hm:n≤10000):W.ownsRow B 3 1 (.slice (some (g 0)) n n) n (ints l):=by
 subst hn;refine ⟨by simp [ints],Or.inr ⟨g,l.length,_,rfl,hB,h,Nat.le_refl _,by unfold maxLen;omega,by simp [ints],by
  rw [List.toList_toArray,Nat.mul_one];exact List.take_of_length_le (by simp [ints])⟩⟩
def Z2:List Value:=[σ,σ]
theorem At.two {W:World} {b:Nat} {a0 a1:Value} (h:At W b [a0,a1]):W.cell? (b 0)=some a0∧W.cell? (b 1)=some a1∧W.frozen? (b 0)=false∧W.frozen? (b 1)=false∧b<W.heap.size:=
 ⟨h.cell 0 _ rfl,h.cell 1 _ rfl,h.free 0 b11,h.free 1 b11,h.hi⟩
def ClonePost (w:World) (d:De) (e:Ending) (w':World):Prop:=∃y:Dv,e=.returned (dVal y)∧y.pl=d∧DOwn w.heap.size w' y∧Below w w w'
namespace Amsn
theorem km8 {p : Prop} (h:p:=by
 exact bodyPost_ret (v:=.agg #[.slice y.oa y.o.length y.oc,.slice y.ta y.t.length y.tc]) (by simp [results,Tryz.results116,go_sem,e0,e1]) rfl HPo.out):p:=h
theorem km27 {p : Prop} (h:p:=by
 have HB0:=Hd hb0;have HS0:=Hd hs0;have HA0:=Hd hB0;clear hb0 hs0 hB0;simp only [Z2] at hW0;go_enter Tryz.func116,Tryz.ntmps116;go_wp2_with fail;rw [←hW0];refine (HC.out W0 HB0.out).mono ?_;rintro e w1 ⟨a',c',rfl,ho1,hb⟩;have hk1:w1.cell? (w 0 1)=some (.slice ta t.length tc):=(hb.cell (p:=(w 0 1)) b25).trans hp1;have hlt:W0.heap.size≤w1.heap.size:=hb.size;have HB1:Hid (Below (w.heap.size+2) W0 w1):=by rw [←HS0.out];exact hb
 rw [HS0.out] at ho1 hlt
 --the answer's variable
 exact cm64):p:=h
theorem km64 {p : Prop} (h:p:=by
 have hlt0:w.heap.size<w1.heap.size:=b10;have hne0:w.heap.size≠w1.heap.size:=b10;clear hp0 hp1 hW0 hb HC hW hB2 how ho1 HB1;go_wp2_with fail;generalize w1.alloc (Obj.cells #[.slice a' o.length c',σ] 83)=w2 at *;rw [←hO] at *;go_loopw [14] (fun v14 wr=>∃(k:Nat) (y:Dv),k≤t.length∧v14=.int .i64 k∧Hid (y.o=o∧y.t.map Tb.l=(t.map Tb.l).take k)∧Hid (Wk (w.heap.size+2) wr O y)∧Hid (Below (w.heap.size+2) W0 wr)) (fun v14 _=>2000-(intOf v14).toNat)
 case atStart=>exact ⟨0,⟨a',c',o,none,0,[]⟩,Nat.zero_le _,rfl,⟨rfl,rfl⟩,HWk,HB2⟩
 case round=>
  obtain ⟨k,y,hk,rfl,HY,HW,HB⟩:=hrel;have HBW:=Hd (HB0.out.trans (HB.out.mono b10));obtain ⟨x0,x1,x2,x3,x4⟩:=HW.out.box.cc;by_cases hlt2:k<t.length
  ·have hlt':(k:Int)<(t.length:Int):=b10;obtain ⟨g,of,rfl,_,_,hcell,_⟩:=HR.out wr HBW.out k hlt2;have hrow:=HRW.out wr HBW.out k hlt2;exact cm94
  ·exact cm8):p:=h
theorem km94 {p : Prop} (h:p:=by
 have HROW:=Hd hrow;have hcapy:=hrow.cap;clear hrow;have hmk:=make_run yl.length b10;rw [made_ints] at hmk;obtain ⟨Zc,hZc⟩:∃Zc,Zc=ints (List.replicate yl.length 0):=⟨_,rfl⟩
 have hZl:Zc.length=yl.length:=by rw [hZc];simp [ints]
 rw [←hZc] at hmk;have HZL:=Hd hZl;clear hZc hZl;have HYL:Hid (y.t.length=k):=by
  have:=congrArg List.length HY.out.2;rw [List.length_map,List.length_take,List.length_map] at this;rw [Hid,this];omega
 have hwlt:w.heap.size+2≤wr.heap.size:=HW.out.box.cc.2.2.2.2 |>fun h=>by have:=HW.out.lo;omega
 have HWL:=Hd hwlt;have HD1:Hid ((wr.alloc (Obj.cells Zc.toArray 3)).heap[wr.heap.size]? =some (.cells Zc.toArray 3 (0,0))):=Go.heap_alloc_new wr _;have HD2:Hid ((ints yl).length=Nat.min yl.length yl.length):=by rw [Hid,ints_len];exact (Nat.min_self _).symm
 have HD3:Hid (0<(ints yl).length→(some ⟨wr.heap.size,0,none⟩:Option Addr)=some ⟨wr.heap.size,0,none⟩∧∃ad,ya=some ad∧∀j v,(ints yl)[j]? =some v→(wr.alloc (Obj.cells Zc.toArray 3)).cell? (ad.add j)=some v):=by
  intro hpos;rw [ints_len] at hpos;rcases HROW.out with ⟨_,h0,_⟩|⟨g',o',rfl,g1,g2,g3,g4⟩
  ·omega
  ·refine ⟨rfl,_,rfl,fun j v hj=>?_⟩;rw [Addr.add_lit,World.cell?_alloc_lt _ _ _ (by exact g1)];exact g4 j v hj
 have HD4:Hid (0+(ints yl).length≤Zc.length):=by rw [Hid,ints_len,HZL.out];omega
 have HD5 : Hid (Below wr wr (wr.alloc (Obj.cells Zc.toArray 3))) := Br.alloc Nr _; have HD6 : Hid ((Instr.makeSlice 22 (.int .i64 yl.length) (.int .i64 yl.length)).run Tryz.prog wr = .ok (.slice (some ⟨wr.heap.size, 0, none⟩) yl.length yl.length) (wr.alloc (.cells Zc.toArray 3))) := hmk wr; go_wp2_with (first
 | ((with_reducible show wpList _ _ _ _ _ _)
    refine wpList_copy_splice rfl (.tmp 21) (.tmp 22) 22 22 rfl 3 Tryz.underlying22 size3 _ _ _ _ _ _ rfl rfl wr.heap.size 0 Zc 3 HD1.out (ints yl) HD2.out HD3.out HD4.out ints_one wr.heap.size wr HD5.out Nr ?_;intro w3 hh3 hb3;have hsp:splice Zc 0 (ints yl)=ints yl:=by
     unfold splice;rw [List.take_zero,List.nil_append,Nat.zero_add,List.drop_of_length_le (by rw [HZL.out,ints_len];exact Nat.le_refl _),List.append_nil]
    have hh4:=hh3.out;rw [hsp] at hh4;have hG3:wr.heap.size<w3.heap.size:=(Array.getElem?_eq_some_iff.1 hh4).1;have hown3:w3.ownsRow (w.heap.size+2) 3 1 (.slice (some (wr 0 0)) yl.length yl.length) yl.length (ints yl):=own_whole hh4 hwlt rfl b10;have hW3:Wk (w.heap.size+2) w3 O y:=HW.out.below hb3;obtain ⟨yn,hyn⟩:∃yn:Tb,yn=⟨some ⟨wr.heap.size,0,none⟩,yl.length,yl⟩:=⟨_,rfl⟩
    obtain ⟨W4,hW4⟩:∃W4,W4=w3.alloc (Obj.cells #[.slice (some (wr 0 0)) yl.length yl.length] 22):=⟨_,rfl⟩
    have hb4:Below w3 w3 W4:=by rw [hW4];exact Br.alloc Nr _
    have hc4:W4.cell? (w3 0 0)=some yn.val:=by rw [hW4,hyn];simp [Tb.val]
    have hW4k:Wk (w.heap.size+2) W4 O y:=hW3.below hb4;have hlt4:w.heap.size+2≤W4.heap.size:=by have:=hb4.size;omega
    obtain ⟨aN, cN, wN, hrun, hown, hbox, hbN⟩ := append_tab W4 (w.heap.size + 2) O y yn w3.heap.size hW4k hc4 (by rw [hyn]; exact ownsRow_below hown3 hb4) (by
     intro z hz p q hp hq;rw [hyn] at hq;cases hq;have:=(HW.out.own.e z hz).lt p.block (by unfold Tb.val;rw [hp];rfl);show p.block≠wr.heap.size;omega) (by have:=HYL.out;omega) hlt4
    have HAP:=Hd hrun;have HWN:Hid (Wk (w.heap.size+2) (wN.setCell (O 1) (.slice aN (y.t.length+1) cN)) O ⟨y.oa,y.oc,y.o,aN,cN,y.t++[yn]⟩):=Wk.boxT hown hbox HW.out.lo b11;have HBN:Hid (Below (w.heap.size+2) W0 (wN.setCell (O 1) (.slice aN (y.t.length+1) cN))):=(((HB.out.trans (hb3.mono hwlt)).trans (hb4.mono b10)).trans hbN).setCell (p:=(O 1)) HW.out.lo _;have HYN:Hid ((y.t++[yn]).map Tb.l=(t.map Tb.l).take (k+1)):=by
     rw [Hid,List.map_append,HY.out.2,HTK.out,hyn];rfl
    obtain ⟨z0,z1,z2,z3,z4⟩:=hbox.cc;obtain ⟨u0,u1,u2,u3,u4⟩:=hW3.box.cc;clear hrun hown hbox hbN x0 x1 x2 x3 x4 hh3 hh4 hsp hmk HROW hcell hown3 hW3 hW4k hc4 hb4 hb3)
 |(at_builtin;rw [←hW4];clear hW4;refine Lib.wpList_append_run _ rfl _ _ _ _ rfl _ _ rfl rfl _ _ HAP.out ?_))
 clear HAP;go_wp2_with fail;go_roundw
 case rel=>exact ⟨k+1,⟨y.oa,y.oc,y.o,aN,cN,y.t++[yn]⟩,by omega,by go_num,⟨HY.out.1,HYN.out⟩,HWN,HBN⟩
 case measure=>simp [intOf];omega):p:=h
end Amsn
open Amsn in
set_option maxHeartbeats 4000000 in
theorem clone_any (x:Dv) (w:World) (h:DIn w x) (hz:DSz x):Calls Tryz.prog 116 #[dVal x] w (ClonePost w x.pl):=by
 have HC:=Hd (fun W hb=>cloneO_any x.oa x.o x.oc W (h.below hb).o hz.o);exact cm27
def fst {α:Type} (f:α→Bool) (l:List α):Int:=if l.findIdx f<l.length then (l.findIdx f:Int) else -1
theorem fst_hit {α:Type} {f:α→Bool} {l:List α} {d:α} {k:Nat} (hk:k<l.length) (h:∀j,j<k→f (l.getD j d)=false) (hf:f (l.getD k d)=true):fst f l=k:=by
 have e:l.findIdx f=k:=by
  rw [List.findIdx_eq hk];refine ⟨by rw [←getD_get (d:=d) hk];exact hf,fun j hj=>?_⟩;rw [←getD_get (d:=d) (show j<l.length by omega)];exact h j hj
 unfold fst;rw [e,if_pos hk]
theorem fst_miss {α:Type} {f:α→Bool} {l:List α} {d:α} (h:∀j,j<l.length→f (l.getD j d)=false):fst f l=-1:=by
 have e:¬l.findIdx f<l.length:=fun hh=>by
  have h1:=List.findIdx_getElem (w:=hh);have h2:=h _ hh;rw [getD_get hh,h1] at h2;cases h2
 unfold fst;rw [if_neg e]
theorem fst_cases {α:Type} (f:α→Bool) (l:List α) (d:α):(fst f l=-1∧∀j,j<l.length→f (l.getD j d)=false)∨∃k:Nat,fst f l=k∧k<l.length∧f (l.getD k d)=true∧∀j,j<k→f (l.getD j d)=false:=by
 unfold fst;by_cases h:l.findIdx f<l.length
 ·rw [if_pos h];refine Or.inr ⟨_,rfl,h,?_,fun j hj=>?_⟩
  ·rw [getD_get h];exact List.findIdx_getElem (w:=h)
  ·rw [getD_get (show j<l.length by omega)];have:=List.not_of_lt_findIdx hj;simpa using this
 ·rw [if_neg h];refine Or.inl ⟨rfl,fun j hj=>?_⟩;rw [getD_get hj];have:=List.not_of_lt_findIdx (show j<l.findIdx f by omega);simpa using this
def zeroB (z:Int):Bool:=decide (z=0)
def noneB (a:Dn):Bool:=decide (a=Dn.zero)
set_option maxHeartbeats 4000000 in
theorem index_any (a:Option Addr) (c:Nat) (l:List Int) (w:World) (h:RowOf w a l.length c (ints l)) (hl:l.length≤10000):
 Calls Tryz.prog 120 #[.slice a l.length c,I] w (RetW (.int .i64 (fst zeroB l)) w):=by
 have HA:Hid (∀W,Below w w W→∀j,j<l.length→∃g o,a=some ⟨g,o,none⟩∧(l.length:Int)≤c∧(c:Int)≤9223372036854775807∧W.cell? ⟨g,o+j,none⟩=some ((l.getD j 0):U)):=by
  intro W hb j hj;obtain ⟨g,o,h1,h2,h3,h4,h5⟩:=(h.below hb).at b10;exact ⟨g,o,h1,h3,h4,h5 j _ (ints_at _ j hj)⟩
 clear h;go_enter Tryz.func120,Tryz.ntmps120;go_wp2_with fail;go_loopw [8] (fun v8 wr=>∃k:Nat,k≤l.length∧v8=.int .i64 k∧Hid (∀j,j<k→zeroB (l.getD j 0)=false)∧Hid (Below w w wr)) (fun v8 _=>20000-(intOf v8).toNat)
 case atStart=>exact ⟨0,Nat.zero_le _,rfl,(fun j hj=>absurd hj (Nat.not_lt_zero _)),Below.refl _ _⟩
 case round=>
  obtain ⟨k,hk,rfl,HT,HB⟩:=hrel;by_cases hlt:k<l.length
  ·have hlt':(k:Int)<(l.length:Int):=b10;obtain ⟨g,o,rfl,h1,h2,h3⟩:=HA.out wr HB.out k hlt;have HH:Hid (zeroB (l.getD k 0)=true→fst zeroB l=k):=fun hh=>fst_hit (d:=0) hlt HT.out hh;have HN:Hid (zeroB (l.getD k 0)=false→∀j,j<k+1→zeroB (l.getD j 0)=false):=fun hh j hj=>by
    by_cases e:j=k
    ·rw [e];exact hh
    ·exact HT.out j b10
   generalize l.getD k 0=z at *;by_cases hz:z=0
   ·subst hz;have HV:=Hd (HH.out rfl);go_wp2_with fail;go_ret;exact RetW.mk b24 HB.out
   ·have HV:=Hd (HN.out (decide_eq_false hz));have hz1:(0==z)=false:=by simp;omega
    exact cl97
  ·obtain rfl:k=l.length:=b10;have HV:=Hd (fst_miss (d:=0) HT.out);go_wp2_with fail;go_ret;exact RetW.mk b24 HB.out
set_option maxHeartbeats 4000000 in
theorem indexD_any (a:Option Addr) (c:Nat) (l:List Dn) (w:World) (h:RowOf w a l.length c (oflat l)) (hl:l.length≤10000):
 Calls Tryz.prog 121 #[.slice a l.length c,.agg #[I,I,I,I,I]] w (RetW (.int .i64 (fst noneB l)) w):=by
 have HA:Hid (∀W,Below w w W→∀j,j<l.length→∃g o,a=some ⟨g,o,none⟩∧(l.length:Int)≤c∧(c:Int)≤9223372036854775807∧DCel W g (o+j*5) (l.getD j Dn.zero)):=by
  intro W hb j hj;obtain ⟨g,o,h1,h2,h3,h4,h5⟩:=(h.below hb).at b10;refine ⟨g,o,h1,h3,h4,DCel.of fun i v hi=>?_⟩;have hi5:i<5:=(List.getElem?_eq_some_iff.1 hi).1;rw [Nat.add_assoc];exact h5 _ v (by rw [oflat_at _ _ hj _ hi5];exact hi)
 clear h;have HX0:Hid (Below w w (w.alloc (Obj.cells #[I,I,I,I,I] 126))):=Br.alloc Nr _;have hq:=DCel.new w Dn.zero;have HQ:Hid (∀W,Below (w.heap.size+1) (w.alloc (Obj.cells #[I,I,I,I,I] 126)) W→DCel W w.heap.size 0 Dn.zero):=fun W hb=>hq.below hb (Nat.lt_succ_self _);clear hq;go_enter Tryz.func121,Tryz.ntmps121;go_wp2_with fail;generalize w.alloc (Obj.cells #[I,I,I,I,I] 126)=w1 at *;go_loopw [8] (fun v8 wr=>∃k:Nat,k≤l.length∧v8=.int .i64 k∧Hid (∀j,j<k→noneB (l.getD j Dn.zero)=false)∧Hid (Below (w.heap.size+1) w1 wr)) (fun v8 _=>20000-(intOf v8).toNat)
 case atStart=>exact ⟨0,Nat.zero_le _,rfl,(fun j hj=>absurd hj (Nat.not_lt_zero _)),Below.refl _ _⟩
 case round=>
  obtain ⟨k,hk,rfl,HT,HB⟩:=hrel;have HBW:=Hd (HX0.out.trans (HB.out.mono (Nat.le_succ _)));by_cases hlt:k<l.length
  ·have hlt':(k:Int)<(l.length:Int):=b10;obtain ⟨g,o,rfl,h1,h2,h3⟩:=HA.out wr HBW.out k hlt;have HH:Hid (noneB (l.getD k Dn.zero)=true→fst noneB l=k):=fun hh=>fst_hit (d:=Dn.zero) hlt HT.out hh;have HN:Hid (noneB (l.getD k Dn.zero)=false→∀j,j<k+1→noneB (l.getD j Dn.zero)=false):=fun hh j hj=>by
    by_cases e:j=k
    ·rw [e];exact hh
    ·exact HT.out j b10
   obtain ⟨q0,q1,q2,q3,q4⟩:=HQ.out wr HB.out;simp only [Dn.zero,Nat.zero_add] at q0 q1 q2 q3 q4;generalize l.getD k Dn.zero=e at *;obtain ⟨fi,fl,f,cu,rf⟩:=e;obtain ⟨k0,k1,k2,k3,k4⟩:=h3;simp only at k0 k1 k2 k3 k4;by_cases hz:fi=0∧fl=0∧f=0∧cu=0∧rf=0
   ·obtain ⟨rfl,rfl,rfl,rfl,rfl⟩:=hz;have HV:=Hd (HH.out rfl);go_wp2_with fail;go_quiet (fail);go_wp2_with fail;go_ret;exact RetW.mk b24 (below_drewN HBW.out _)
   ·have HV:=Hd (HN.out (decide_eq_false (fun e=>hz (by cases e;exact ⟨rfl,rfl,rfl,rfl,rfl⟩))));by_cases hn0:fi=0
    rotate_left
    ·have hm0:¬0=fi:=fun e=>hn0 e.symm;exact cl36
    subst hn0;by_cases hn1:fl=0
    rotate_left
    ·have hm1:¬0=fl:=fun e=>hn1 e.symm;exact cl36
    subst hn1;by_cases hn2:f=0
    rotate_left
    ·have hm2:¬0=f:=fun e=>hn2 e.symm;exact cl36
    subst hn2;by_cases hn3:cu=0
    rotate_left
    ·have hm3:¬0=cu:=fun e=>hn3 e.symm;exact cl36
    subst hn3;have hn4:¬rf=0:=fun e=>hz ⟨rfl,rfl,rfl,rfl,e⟩;have hm4:¬0=rf:=fun e=>hn4 e.symm;clear hz;exact cl36
  ·obtain rfl:k=l.length:=b10;have HV:=Hd (fst_miss (d:=Dn.zero) HT.out);go_wp2_with fail;go_ret;exact RetW.mk b24 HBW.out
set_option maxHeartbeats 4000000 in
theorem free_any (x:Dv) (p:Nat) (w:World) (h:DIn w x) (hp:p<x.t.length) (h16:(x.t.getD p Tb.nil).l.length=16):
 Calls Tryz.prog 49 #[dVal x,p] w (RetW (.int .i64 (fst zeroB (x.t.getD p Tb.nil).l)) w):=by
 have HR := Hd h.rows; clear h; unfold dVal; obtain ⟨oa, oc, o, ta, tc, t⟩ := x; simp only at HR hp h16 ⊢; have hp' : (p : Int) < (t.length : Int) := b10; have HX : Hid (∀W,Below w w W→∃g of,ta=some ⟨g,of,none⟩∧(t.length:Int)≤tc∧(tc:Int)≤9223372036854775807∧W.cell? ⟨g,of+p,none⟩=some (.slice (t.getD p Tb.nil).a (t.getD p Tb.nil).l.length (t.getD p Tb.nil).c)∧
  ∀j,j<(t.getD p Tb.nil).l.length→∃g' o',(t.getD p Tb.nil).a=some ⟨g',o',none⟩∧((t.getD p Tb.nil).l.length:Int)≤(t.getD p Tb.nil).c∧((t.getD p Tb.nil).c:Int)≤9223372036854775807∧W.cell? ⟨g',o'+j,none⟩=some (((t.getD p Tb.nil).l.getD j 0):U)):=fun W hb=>HR.out W hb p hp
 clear HR;generalize t.getD p Tb.nil=y at *;obtain ⟨ya,yc,yl⟩:=y;simp only at HX h16 ⊢;have hyl:(yl.length:Int)=16:=b10;have HB0:Hid (Below w w (w.alloc (Obj.cells #[.slice oa o.length oc,.slice ta t.length tc] 83))):=Br.alloc Nr _;have HP:Hid (∀W,Below (w.heap.size+1) (w.alloc (Obj.cells #[.slice oa o.length oc,.slice ta t.length tc] 83)) W→W.cell? (w 0 1)=some (.slice ta t.length tc)):=fun W hb=>(hb.cell (p:=(w 0 1)) (Nat.lt_succ_self _)).trans b11;go_enter Tryz.func49,Tryz.ntmps49;go_wp2_with fail;generalize w.alloc (Obj.cells #[.slice oa o.length oc,.slice ta t.length tc] 83)=w1 at *;go_loopw [5] (fun v5 wr=>∃k:Nat,k≤16∧v5=.int .i64 k∧Hid (∀j,j<k→zeroB (yl.getD j 0)=false)∧Hid (Below (w.heap.size+1) w1 wr)) (fun v5 _=>200-(intOf v5).toNat)
 case atStart=>exact ⟨0,Nat.zero_le _,rfl,(fun j hj=>absurd hj (Nat.not_lt_zero _)),Below.refl _ _⟩
 case round=>
  obtain ⟨k,hk,rfl,HT,HB⟩:=hrel;have HBW:=Hd (HB0.out.trans (HB.out.mono (Nat.le_succ _)));by_cases hlt:k<16
  ·have hlt':(k:Int)<16:=b10;obtain ⟨g,of,rfl,a1,a2,a3,a4⟩:=HX.out wr HBW.out;obtain ⟨g',of',rfl,b1,b2,b3⟩:=a4 k b10;have hp1:=HP.out wr HB.out;have HH:Hid (zeroB (yl.getD k 0)=true→fst zeroB yl=k):=fun hh=>fst_hit (d:=0) b10 HT.out hh;have HN:Hid (zeroB (yl.getD k 0)=false→∀j,j<k+1→zeroB (yl.getD j 0)=false):=fun hh j hj=>by
    by_cases e:j=k
    ·rw [e];exact hh
    ·exact HT.out j b10
   clear a4 HX;generalize yl.getD k 0=z at *;by_cases hz:z=0
   ·subst hz;have HV:=Hd (HH.out rfl);go_wp2_with fail;go_ret;exact RetW.mk b24 HBW.out
   ·have HV:=Hd (HN.out (decide_eq_false hz));have hz1:(z==0)=false:=by simpa using hz
    exact cl97
  ·obtain rfl:k=16:=b10;have HV:=Hd (fst_miss (f:=zeroB) (l:=yl) (d:=0) (by rw [h16];exact HT.out));go_wp2_with fail;go_ret;exact RetW.mk b24 HBW.out
end Go.Proofs.YtimhaidiclbnhaaGreat.Des
