import Derived.Test.YtimhaidiclbnhaaGreatP12
set_option linter.unusedSimpArgs false
set_option linter.unusedVariables false
set_option maxRecDepth 100000
open Go.ChangeShapes Go.WideShapes Go.ChangeAt Go.RowKit
namespace Go.Proofs.YtimhaidiclbnhaaGreat.Des
namespace Aub9
theorem km3 {p : Prop} (h:p:=by
 exact cm72):p:=h
theorem km24 {p : Prop} (h:p:=by
 refine (HPR.out w2 HFR.out.bel).mono ?_;rintro e w3 ⟨rfl,hb⟩;replace HFR:=Hd (HFR.out.below hb);clear hb HPR;by_cases hpv:pv=0
 ·subst hpv;obtain ⟨q0,q1,q2,q3,q4⟩:=HTB.out rfl;obtain ⟨k,rfl⟩:∃k:Nat,p=(k:Int):=⟨p.toNat,by omega⟩
  rw [Int.toNat_natCast] at q2;have Q2:=Hd q2;have Q3:=Hd q3;clear q2 q3;go_wp2_with fail;refine (HFX.out w3).mono ?_;rintro e w4 ⟨rfl,hb⟩;replace HFR:=Hd (HFR.out.below hb);clear hb;generalize fixB fi fl=b1 at *;cases b1 with
  |false=>
   have HOE2:Hid (oe=2):=by have:=HOE.out;rw [if_neg b11,if_pos (by rw [Bool.false_and])] at this;exact this
   have HOF2:Hid (of=0):=by have:=HOF.out;rw [if_neg b21] at this;exact this
   have HOD2:Hid (od=x.pl):=by have:=HOD.out;rw [if_neg b21] at this;exact this
   exact cm76
  |true=>
   rw [Bool.true_and] at HOE;go_wp2_with fail;refine (HCU.out w4).mono ?_;rintro e w5 ⟨rfl,hb⟩;replace HFR:=Hd (HFR.out.below hb);clear hb;generalize curB c=b2 at *;cases b2 with
   |false=>
    have HOE2:Hid (oe=2):=by have:=HOE.out;rw [if_neg b11,if_pos rfl] at this;exact this
    have HOF2:Hid (of=0):=by have:=HOF.out;rw [if_neg b21] at this;exact this
    have HOD2:Hid (od=x.pl):=by have:=HOD.out;rw [if_neg b21] at this;exact this
    exact cm101
   |true=>
    rw [if_neg b11,if_neg b11] at HOE;exact cm52
 ·have HOE2:Hid (oe=pv):=by have:=HOE.out;rw [if_pos hpv] at this;exact this
  have HOF2:Hid (of=0):=by have:=HOF.out;rw [if_neg (by rw [HOE2.out];exact hpv)] at this;exact this
  have HOD2:Hid (od=x.pl):=by have:=HOD.out;rw [if_neg (by rw [HOE2.out];exact hpv)] at this;exact this
  obtain ⟨hA5,hD5,hB5⟩:=HFR.out.fin;have e0:=hA5.cell 0 _ rfl;have e1:=hA5.cell 1 _ rfl;have hpo:=HP.out y _ b41 hD5 hB5;rw [HOE2.out,HOF2.out] at hpo;exact cm120):p:=h
theorem km34 {p : Prop} (h:p:=by
 have HPR:Hid (∀W,Below w w W→Calls Tryz.prog 117 #[.agg #[.slice x.oa x.o.length x.oc,.slice x.ta x.t.length x.tc],p] W (RetW (.int .i64 (procV x.pl p)) W)):=fun W hb=>process_any x p W (h.below hb) hz;exact cm57):p:=h
theorem km52 {p : Prop} (h:p:=by
 have q3:=Q3.out;obtain ⟨g,g2,a1,a2,a3,a4,a5,a6,a7,_,_,_,_,_⟩:=HFR.out.wk.own.tabAt k b10 (by rw [hyT,q3];omega);have hrow:=HFR.out.wk.own.in.tab k b10;rw [hyT] at hrow a5 a6;have hix:=index_any _ _ _ w5 hrow b10;rw [a4] at hix;generalize (y.t.getD k Tb.nil).c=cT at hix a5 a6 a7;have HIX:=Hd hix;obtain ⟨x0,x1,x2,x3,x4⟩:=HFR.out.wk.box.cc;have q1y:(k:Int)<(y.t.length:Int):=b10;clear hix hrow hyt hyo hyT q3 a4;rw [a1] at x1;go_wp2_with fail;refine HIX.out.mono ?_;rintro e w6 ⟨rfl,hb⟩;replace HFR:=Hd (HFR.out.below hb);clear hb HIX x0 x1 x2 x3 x4 a1 a2 a3 a5 a6 a7;rcases fst_cases zeroB T 0 with ⟨hf,_⟩|⟨j,hf,hj,_,_⟩
 ·rw [hf] at HOE HOF HOD ⊢;have HOE2:Hid (oe=3):=by have:=HOE.out;rw [if_pos b14] at this;exact this
  exact cm77
 ·rw [hf] at HOE HOF HOD ⊢;have HOE2:Hid (oe=0):=by have:=HOE.out;rw [if_neg b10] at this;exact this
  have HJ16:Hid (j<16):=by have:=Q3.out;rw [Hid];omega
  have HOF2:Hid (of=j):=by have:=HOF.out;rw [if_pos HOE2.out] at this;exact this
  have hod2:=HOD.out;rw [if_pos HOE2.out,Int.toNat_natCast,Int.toNat_natCast,←HYO.out] at hod2;have HID:=Hd (indexD_any y.oa y.oc y.o w6 HFR.out.wk.own.in.o (by rw [HYO.out];exact hol));obtain ⟨x0,x1,x2,x3,x4⟩:=HFR.out.wk.box.cc;have hj16:(j:Int)<16:=by have:=Q3.out;omega
  clear HOE HOF HOD;go_wp2_with fail;refine HID.out.mono ?_;rintro e w7 ⟨rfl,hb⟩;replace HFR:=Hd (HFR.out.below hb);clear hb HID x0 x1 x2 x3 x4;have hyol:y.o.length≤128:=by rw [HYO.out];exact q4
  unfold putD slotN at hod2;rcases fst_cases noneB y.o Dn.zero with ⟨hn,_⟩|⟨m,hn,hm,_,_⟩
  ·rw [hn,if_pos b14,if_pos b14] at hod2;have HOD2:=Hd hod2;rw [hn];clear hod2;obtain ⟨W4,hW4⟩:∃W4,W4=w7.alloc (Obj.cells #[I,I,I,I,I] 126):=⟨_,rfl⟩
   have hb4:Below w7 w7 W4:=by rw [hW4];exact Br.alloc Nr _
   have hv4:W4.rangeAt w7.heap.size 0 Dn.zero.cells:=by rw [hW4];exact (At.new w7 Dn.zero.cells 126).r
   have HF4:=HFR.out.below hb4;have hle4:w.heap.size+2≤W4.heap.size:=by have:=HF4.wk.lo;have:=HF4.wk.box.at'.hi;omega
   obtain ⟨aN,cN,wN,hrun,hown,hbox,hbN⟩:=append_desc W4 (w.heap.size+2) O y Dn.zero w7.heap.size HF4.wk hv4 b10 hle4;have HAP:=Hd hrun;obtain ⟨wA,hwA⟩:∃wA,wA=wN.setCell (O 0) (.slice aN (y.o.length+1) cN):=⟨_,rfl⟩
   have hwkA:Wk (w.heap.size+2) wA O ⟨aN,cN,y.o++[Dn.zero],y.ta,y.tc,y.t⟩:=by rw [hwA];exact Wk.boxO hown hbox HFR.out.wk.lo b11
   have hbelA:Below (w.heap.size+2) W4 wA:=by rw [hwA];exact hbN.setCell (p:=(O 0)) HFR.out.wk.lo _
   have HFA:=Hd (HF4.turn hbelA hwkA);obtain ⟨x0,x1,x2,x3,x4⟩:=HFR.out.wk.box.cc;obtain ⟨z0,z1,z2,z3,z4⟩:=hbox.cc;clear HFR;have HFR:=HFA;clear HFA hrun hown hbox hbN hwkA hbelA HF4 hb4 hv4;have hN:y.o.length<(y.o++[Dn.zero]).length:=b11;have hfin0:(y.o++[Dn.zero]).set y.o.length ⟨fi,fl,0,c,1⟩=y.o++[⟨fi,fl,0,c,1⟩]:=by
    rw [List.set_append_right _ _ Nr,Nat.sub_self];rfl
   have HFIN:=Hd hfin0;clear hfin0;obtain ⟨g3,b1,b2,b3,b4,b5,b6,b7⟩:=HFR.out.wk.own.descAt y.o.length hN;simp only at b1 b2 b3 b4;have hth:=there5 b4 b5;rw [b1] at HAP hwA;rw [List.length_append] at b2;simp only [List.length_singleton] at b2;have hOA:aN=some ⟨g3,0,none⟩:=b1;go_wp2_with (first|(at_builtin;rw [←hW4];clear hW4;refine Lib.wpList_append_run _ rfl _ _ _ _ rfl _ _ rfl rfl _ _ HAP.out ?_)|(with_reducible refine hold_store 126 rfl ?_))
   rw [←hwA];clear hwA HAP z0 z1 z2 z3 z4 x0 x1 x2 x3 x4;refine store_ato (y.o.length*5) (Dn.cells ⟨fi,fl,0,c,1⟩) hth rfl size34 (by simp [Dn.cells,Value.oneCell']) rfl rfl rfl rfl ?_;obtain ⟨b6,b7⟩:=(show w.heap.size+2≤g3∧g3<wA.heap.size from ⟨b6,b7⟩)
   have hwk8:=HFR.out.wk.putO b1 y.o.length hN ⟨fi,fl,0,c,1⟩;intro w8 hw8;rw [←hw8] at hwk8;have hbel8:Below (w.heap.size+2) wA w8:=by rw [hw8];exact below_cells b6 _ _ Br
   have HF8:=Hd (HFR.out.turn hbel8 hwk8);clear hw8 hwk8 hbel8 b1 b2 b3 b4 b5 b6 b7;exact cm97
  ·have hm0:¬((m:Int)<0):=b10;rw [hn,if_neg hm0,if_neg hm0,Int.toNat_natCast] at hod2;have HOD2:=Hd hod2;rw [hn];clear hod2 hm0;obtain ⟨wA,hwA⟩:∃wA,wA=w7:=⟨_,rfl⟩
   rw [←hwA] at HFR ⊢;clear hwA;have hN:m<y.o.length:=hm;obtain ⟨g3,b1,b2,b3,b4,b5,b6,b7⟩:=HFR.out.wk.own.descAt m hN;have hth:=there5 b4 b5;obtain ⟨x0,x1,x2,x3,x4⟩:=HFR.out.wk.box.cc;have hOA:y.oa=some ⟨g3,0,none⟩:=b1;have hm1:(0:Int)≤(m:Int):=b10;rw [b1] at x0;have hmI:(m:Int)<(y.o.length:Int):=b10;go_wp2_with (with_reducible refine hold_store 126 rfl ?_)
   clear x0 x1 x2 x3 x4;refine store_ato (m*5) (Dn.cells ⟨fi,fl,0,c,1⟩) hth rfl size34 (by simp [Dn.cells,Value.oneCell']) rfl rfl rfl rfl ?_;obtain ⟨b6,b7⟩:=(show w.heap.size+2≤g3∧g3<wA.heap.size from ⟨b6,b7⟩)
   have hwk8:=HFR.out.wk.putO b1 m hN ⟨fi,fl,0,c,1⟩;intro w8 hw8;rw [←hw8] at hwk8;have hbel8:Below (w.heap.size+2) wA w8:=by rw [hw8];exact below_cells b6 _ _ Br
   have HF8:=Hd (HFR.out.turn hbel8 hwk8);clear hw8 hwk8 hbel8 b1 b2 b3 b4 b5 b6 b7;exact cm129):p:=h
theorem km57 {p : Prop} (h:p:=by
 have HTB:Hid (procV x.pl p=0→0≤p∧p<(x.t.length:Int)∧tabAt x.pl p=(x.t.getD p.toNat Tb.nil).l∧(tabAt x.pl p).length=16∧x.o.length≤128):=fun hp=>by
  obtain ⟨h1,h2,h3⟩:=procV_ok hp;rw [pl_t] at h3;have h4:=check_tab h1 p.toNat b66;exact ⟨h2,h3,map_getD x.t p.toNat b10,h4.1,(check_len h1).2.2⟩
 have hol:=hz.o;exact cm3):p:=h
theorem km72 {p : Prop} (h:p:=by
 have HFX:=Hd (fun W=>fixed_any fi fl W);have HCU:=Hd (fun W=>cursor_any c W);unfold dVal;go_enter Tryz.func87,Tryz.ntmps87;exact cm24):p:=h
theorem km76 {p : Prop} (h:p:=by
 generalize ((w4.setCell (w 1 0) (.slice y.oa y.o.length y.oc)).setCell (w 1 1) (.slice y.ta y.t.length y.tc))=w9 at *;exact cl87):p:=h
theorem km77 {p : Prop} (h:p:=by
 obtain ⟨hA5,hD5,hB5⟩:=HFR.out.fin;have e0:=hA5.cell 0 _ rfl;have e1:=hA5.cell 1 _ rfl;have hpo:=HP.out y _ b41 hD5 hB5;rw [HOE2.out,HOF2.out] at hpo;have HPo:=Hd hpo;obtain ⟨r0,r1,r2,r3,r4⟩:=HFR.out.r.two;obtain ⟨x0,x1,x2,x3,x4⟩:=HFR.out.wk.box.cc;clear hA5 hD5 hB5 hpo;go_wp2_with fail;generalize ((w6.setCell (w 1 0) (.slice y.oa y.o.length y.oc)).setCell (w 1 1) (.slice y.ta y.t.length y.tc))=w9 at *;exact bodyPost_ret (v:=.tuple #[.agg #[.slice y.oa y.o.length y.oc,.slice y.ta y.t.length y.tc],I,(3:Int)]) b67 rfl HPo.out):p:=h
theorem km97 {p : Prop} (h:p:=by
 have HF9:=Hd (HF8.out.turn ((Below.refl (w.heap.size+2) w8).setCell (p:=(g5 j)) c10 (.int .i64 ((y.o.length:Int)+1))) (HF8.out.wk.putT k hkt c4 j ((y.o.length:Int)+1)));obtain ⟨hA5,hD5,hB5⟩:=HF9.out.fin;simp only [tset_len,List.length_set,List.length_append,List.length_singleton,c1,hOA] at hA5 hD5 hB5;have e0:=hA5.cell 0 _ rfl;have e1:=hA5.cell 1 _ rfl;have hpo:=HP.out _ _ (by rw [HOD2.out];exact De.ext' HFIN.out b31) hD5 hB5;rw [HOE2.out,HOF2.out] at hpo;simp only [tset_len,List.length_set,List.length_append,List.length_singleton] at hpo;have HPo:=Hd hpo;obtain ⟨r0,r1,r2,r3,r4⟩:=HF8.out.r.two;obtain ⟨x0,x1,x2,x3,x4⟩:=HF8.out.wk.box.cc;simp only [List.length_set,List.length_append,List.length_singleton,c1,hOA] at x0 x1;have hNb:(y.o.length:Int)≤20000:=b10;clear hA5 hD5 hB5 hpo HFR c8 c9 hyT q3 c4 c1 hOA;go_wp2_with fail;generalize ((w8.setCell (g5 j) (.int .i64 ((y.o.length:Int)+1))).setCell (w 1 0) (.slice (some (g3 0)) (y.o.length+1) cN)).setCell (w 1 1) (.slice (some (g4 0)) y.t.length y.tc)=w9 at *;exact bodyPost_ret (v:=.tuple #[.agg #[.slice (some (g3 0)) (y.o.length+1) cN,.slice (some (g4 0)) y.t.length y.tc],j,I]) b67 rfl HPo.out):p:=h
theorem km101 {p : Prop} (h:p:=by
 go_wp2_with fail;generalize ((w5.setCell (w 1 0) (.slice y.oa y.o.length y.oc)).setCell (w 1 1) (.slice y.ta y.t.length y.tc))=w9 at *;exact cl87):p:=h
theorem km114 {p : Prop} (h:p:=by
 simp only [List.length_set,List.length_append,List.length_singleton,c1,hOA] at x0 x1;have hNb:(m:Int)≤20000:=b10;clear hA5 hD5 hB5 hpo HFR c8 c9 hyT q3 c4 c1 hOA;go_wp2_with fail;generalize ((w8.setCell (g5 j) (.int .i64 ((m:Int)+1))).setCell (w 1 0) (.slice (some (g3 0)) y.o.length y.oc)).setCell (w 1 1) (.slice (some (g4 0)) y.t.length y.tc)=w9 at *;exact bodyPost_ret (v:=.tuple #[.agg #[.slice (some (g3 0)) y.o.length y.oc,.slice (some (g4 0)) y.t.length y.tc],j,I]) b67 rfl HPo.out):p:=h
theorem km120 {p : Prop} (h:p:=by
 exact bodyPost_ret (v:=.tuple #[.agg #[.slice y.oa y.o.length y.oc,.slice y.ta y.t.length y.tc],I,pv]) b67 rfl HPo.out):p:=h
theorem km129 {p : Prop} (h:p:=by
 have nR:w.heap.size+1≠g5:=b10;have HF9:=Hd (HF8.out.turn ((Below.refl (w.heap.size+2) w8).setCell (p:=(g5 j)) c10 (.int .i64 ((m:Int)+1))) (HF8.out.wk.putT k hkt c4 j ((m:Int)+1)));obtain ⟨hA5,hD5,hB5⟩:=HF9.out.fin;simp only [tset_len,List.length_set,List.length_append,List.length_singleton,c1,hOA] at hA5 hD5 hB5;exact cm114):p:=h
end Aub9
open Aub9 in
set_option maxHeartbeats 8000000 in
theorem open_any (x:Dv) (p fi fl c:Int) (w:World) (h:DIn w x) (hz:DSz x):
 Calls Tryz.prog 87 #[dVal x,p,fi,fl,c] w (OutP w x (openD x.pl p fi fl c) (fun v=>.tuple #[v,(openF x.pl p fi fl c),(openE x.pl p fi fl c)])):=by
 exact cm34
end Go.Proofs.YtimhaidiclbnhaaGreat.Des
namespace Go.Proofs.YtimhaidiclbnhaaGreat.Con
theorem wp_app0 {o:Oper} {a:Act} {w:World} {K:Act→World→Prop} {Q:Exit→Act→World→Prop} (s x:Operand)
 (ho:o.op=.call {callee:=.builtin .append,args:=#[s,x],argTypes:=#[47,47]})
 (base:Nat) (hs:a.eval s=.slice none 0 0)
 (B:Nat) (ad:Option Addr) (m:List ByteArray) (cap:Nat) (hx:a.eval x=.slice ad m.length cap) (hr:StrRow B ad cap m w)
 (hm:m.length≤100000) (hbase:base≤w.heap.size)
 (h:∀a' cap' w',w'.ownsRow base 9 1 (.slice a' m.length cap') m.length (m.map Value.string)→StrRow base a' cap' m w'→Below w w w'→K (a.put o.dst (.slice a' m.length cap')) w'):o.wp Tryz.prog a w K Q:=
 wp_app s x ho w.heap.size (.slice none 0 0) [] hs (World.ownsRow_nil _ _ _ _) B ad m cap hx hr b11 hm Nr (fun a' cap' w' h1 h2 h3=>h a' cap' w' (own_mono h1 hbase) (h2.mono hbase) h3)
namespace Aeg0
theorem km17 {p : Prop} (h:p:=by
 replace H0:=Hd (H0.out.below Br.drew H0.out.lt);go_region_held3 (fun w'=>w'.cell? (w 0 0)=some (.slice a l.length cap)∧w'.cell? (w 0 1)=some (q:U)) (go_keep) (first|(rw [if_pos (by rfl)];refine wp_app0 (Operand.const (.slice none 0 0)) (Operand.tmp 6) rfl (w.heap.size+2) rfl B a l cap rfl ?_ b10 ?_ ?_;(first|exact HR.out _ H0.out|exact HR.out _ (H0.out.below (Br.alloc Nr _) H0.out.lt));(first|exact H0.out.lt|exact (H0.out.below (Br.alloc Nr _) H0.out.lt).lt);intro a1 cap1 w1 ho hr1 hb1;have H1:Hst w w1 (.slice a l.length cap) q:=(by first|exact H0.out.below hb1 H0.out.lt|exact (H0.out.below (Br.alloc Nr _) H0.out.lt).below hb1 (Nat.le_trans H0.out.lt b11));have klt:w.heap.size<w1.heap.size:=Nat.lt_of_lt_of_le b10 H1.lt;have k0:=H1.p0;have k1:=H1.p1)|(rw [if_pos (by rfl)];refine wp_app (Operand.tmp 7) (Operand.tmp 9) rfl (w.heap.size+2) (.slice a1 l.length cap1) l rfl ?_ 0 _ [s] 1 rfl ?_ b10 b11 ?_ ?_;(first|exact ho|exact ho.alloc _);(first|exact StrRow.one_new _ _ _ |exact (StrRow.one_new _ _ _).below hb1|exact ((StrRow.one_new _ _ _).below Br.drew).below hb1);(first|exact H1.lt|exact Nat.le_trans H1.lt b11);intro a2 cap2 w2 ho2 hr2 hb2;have H2:Hst w w2 (.slice a l.length cap) q:=b124;have k0':=H2.p0;have k1':=H2.p1;obtain ⟨u0,r0⟩:=H2.r0;obtain ⟨u1,r1⟩:=H2.r1;have f0:=H2.f0;have f1:=H2.f1))
 all_goals
  have HD:=H2.done (.slice a2 (l.length+1) cap2) q hr2;generalize (w2.setCell (w 1 0) (Value.slice a2 (l.length+1) cap2)).setCell (w 1 1) q=W3 at *;obtain ⟨d0,d1,d2,d3⟩:=HD;go_wp2_with fail;refine bodyPost_ret (v:=.agg #[.slice a2 (l.length+1) cap2,q]) (by simp [results,Tryz.results85,go_sem,d0,d1]) rfl ⟨_,_,rfl,d3,d2⟩):p:=h
end Aeg0
open Aeg0 in
set_option maxHeartbeats 4000000 in
theorem changeR_any (B:Nat) (a:Option Addr) (l:List ByteArray) (cap:Nat) (q:Int) (s:ByteArray) (w:World) (h:StrRow B a cap l w) (hl:l.length≤10000):
 Calls Tryz.prog 85 #[.agg #[.slice a l.length cap,q],.string s] w fun e w'=>∃a' cap',e=.returned (.agg #[.slice a' (l.length+1) cap',q])∧StrRow w.heap.size a' cap' (l++[s]) w'∧Below w w w':=by
 have HR:Hid (∀W,Hst w W (.slice a l.length cap) q→StrRow B a cap l W):=fun W hW=>h.below hW.bel;clear h;go_enter Tryz.func85,Tryz.ntmps85;exact cm17
def syncV (n:Nat) (q at_:Int):Int:=if 0≤at_∧q<at_∧at_<n then at_ else q
set_option maxHeartbeats 4000000 in
theorem syncedR_any (a:Option Addr) (n cap:Nat) (q t:Int) (w:World):
 Calls Tryz.prog 81 #[.agg #[.slice a n cap,q],t] w (RetW (.agg #[.slice a n cap,(syncV n q t)]) w):=by
 by_cases hc:0≤t∧q<t∧t<n
 ·have HR:Hid (syncV n q t=t):=by unfold Hid syncV;rw [if_pos hc]
  obtain ⟨h0,h1,h2⟩:=hc;go_enter Tryz.func81,Tryz.ntmps81;go_wp2_with fail;refine bodyPost_ret (v:=.agg #[.slice a n cap,t]) (by simp [results,Tryz.results81,go_sem]) rfl ⟨by rw [HR.out],?_⟩;exact ((Below.refl _ w).alloc Nr _).alloc b11 _
 ·have HR:Hid (syncV n q t=q):=by unfold Hid syncV;rw [if_neg hc]
  have HC:Hid (¬(0≤t∧q<t∧t<n)):=hc;clear hc;go_enter Tryz.func81,Tryz.ntmps81;go_wp2_with fail
  all_goals
   first
   |(exfalso;have:=HC.out;omega)
   |refine bodyPost_ret (v:=.agg #[.slice a n cap,q]) (by simp [results,Tryz.results81,go_sem]) rfl ⟨by rw [HR.out],?_⟩
  all_goals exact ((Below.refl _ w).alloc Nr _).alloc b11 _
structure Mid (w W:World) (s0 v:Value) (q:Int) (g:Nat):Prop where
 h:Hst w W s0 q
 lo:w.heap.size+2≤g
 c0:W.cell? (g 0)=some v
 c1:W.cell? (g 1)=some (q:U)
 f0:W.frozen? (g 0)=false
 f1:W.frozen? (g 1)=false
theorem Mid.mk' {w W:World} {s0 u0 u1:Value} {q:Int} {g:Nat} (h:Hst w W s0 q) (lo:w.heap.size+2≤g) (v:Value) (c0:W.cell? (g 0)=some u0) (c1:W.cell? (g 1)=some u1)
 (f0:W.frozen? (g 0)=false) (f1:W.frozen? (g 1)=false):
 Mid w ((W.setCell (g 0) v).setCell (g 1) q) s0 v q g:=by
 have hb:Below (w.heap.size+2) W ((W.setCell (g 0) v).setCell (g 1) q):=((Below.refl _ W).setCell (by show _≤g;omega) v).setCell (by show _≤g;omega) _;have c1':(W.setCell (g 0) v).cell? (g 1)=some u1:=by
  rw [World.cell?_setCell_other _ _ _ _ b11,c1]
 refine ⟨h.below hb Nr,lo,?_,World.cell?_setCell_same _ _ _ c1',by rw [World.frozen?_setCell,World.frozen?_setCell];exact f0,by rw [World.frozen?_setCell,World.frozen?_setCell];exact f1⟩;rw [World.cell?_setCell_other _ _ _ _ b11];exact World.cell?_setCell_same _ _ _ c0
theorem StrRow.put2 {B cap g:Nat} {a:Option Addr} {l:List ByteArray} {w:World} {v v':Value} (h:StrRow B a cap l w) (hg:∀g',a=some ⟨g',0,none⟩→g'≠g) (i j:Nat):StrRow B a cap l ((w.setCell (g i) v).setCell (g j) v'):=by
 rcases h with h|⟨g',h1,h2,h3,h4,h5,h6⟩
 ·exact Or.inl h
 ·refine Or.inr ⟨g',h1,h2,by simpa [World.setCell] using h3,h4,h5,fun k hk=>?_⟩;have:=hg g' h1;rw [World.cell?_setCell_other _ _ _ _ b71,World.cell?_setCell_other _ _ _ _ b71];exact h6 k hk
theorem StrRow.put1 {B cap g:Nat} {a:Option Addr} {l:List ByteArray} {w:World} {v:Value} (h:StrRow B a cap l w) (hg:∀g',a=some ⟨g',0,none⟩→g'≠g) (i:Nat):StrRow B a cap l (w.setCell (g i) v):=by
 rcases h with h|⟨g',h1,h2,h3,h4,h5,h6⟩
 ·exact Or.inl h
 ·refine Or.inr ⟨g',h1,h2,by simpa [World.setCell] using h3,h4,h5,fun k hk=>?_⟩;have:=hg g' h1;rw [World.cell?_setCell_other _ _ _ _ b71];exact h6 k hk
theorem StrRow.ne_hi {B cap g:Nat} {a:Option Addr} {l:List ByteArray} {w:World} (h:StrRow B a cap l w) (hg:w.heap.size≤g):∀g',a=some ⟨g',0,none⟩→g'≠g:=by
 rintro g' rfl;rcases h with ⟨h,_⟩|⟨g2,h1,h2,h3,_⟩
 ·cases h
 ·cases h1;omega
theorem StrRow.ne_lo {B cap g:Nat} {a:Option Addr} {l:List ByteArray} {w:World} (h:StrRow B a cap l w) (hg:g<B):∀g',a=some ⟨g',0,none⟩→g'≠g:=by
 rintro g' rfl;rcases h with ⟨h,_⟩|⟨g2,h1,h2,h3,_⟩
 ·cases h
 ·cases h1;omega
namespace Ak0m
theorem km17 {p : Prop} (h:p:=by
 have pne:W0.heap.size≠w.heap.size:=b10;have pne':w.heap.size≠W0.heap.size:=b10;replace H0:=Hd (H0.out.below Br.drew H0.out.lt);go_region_held3 (fun w'=>w'.cell? (w 0 0)=some (.slice a l.length cap)∧w'.cell? (w 0 1)=some (q:U)) (go_keep) (first|(go_at_call 64;refine (HC.out _ b123).mono ?_;rintro e w1 ⟨a1,cap1,rfl,hr1,hb1,H1⟩;have klt:w.heap.size<w1.heap.size:=Nat.lt_of_lt_of_le b10 H1.lt;have k0:=H1.p0;have k1:=H1.p1;obtain ⟨hc1,hf1⟩:=bcell hb1))
 ·have M:Mid w (w1.alloc (Obj.cells #[.slice a1 l.length cap1,q] 57)) (.slice a l.length cap) (.slice a1 l.length cap1) q w1.heap.size:=by
   refine ⟨H1.below (Br.alloc Nr _) H1.lt,H1.lt,?_,?_,?_,?_⟩<;>simp
  have HRw:StrRow (w.heap.size+2) a1 cap1 l (w1.alloc (Obj.cells #[.slice a1 l.length cap1,q] 57)):=(hr1.mono H0.out.lt).below (Br.alloc Nr _);have HN:=hr1.ne_hi Nr;generalize w1.alloc (Obj.cells #[.slice a1 l.length cap1,q] 57)=W2 at *;generalize w1.heap.size=g at *;exact cl13
 ·have hb2:Below (W0.heap.size+1) (W0.alloc (Obj.cells #[σ,I] 57)) w1:=((Br.drew).trans hb1).mono b11;have M:Mid w ((w1.setCell (W0 0 0) (Value.slice a1 l.length cap1)).setCell (W0 0 1) q) (.slice a l.length cap) (.slice a1 l.length cap1) q W0.heap.size:=by
   refine Mid.mk' (u0:=.slice none 0 0) (u1:=.int .i64 0) H1 H0.out.lt _ ?_ ?_ ?_ ?_
   ·rw [hb2.cell b95];simp
   ·rw [hb2.cell b95];simp
   ·rw [hb2.frozen b95];simp
   ·rw [hb2.frozen b95];simp
  have HN:=hr1.ne_lo (g:=W0.heap.size) b11;have HRw:StrRow (w.heap.size+2) a1 cap1 l ((w1.setCell (W0 0 0) (Value.slice a1 l.length cap1)).setCell (W0 0 1) q):=StrRow.put2 (hr1.mono (Nat.le_trans H0.out.lt b11)) HN 0 1;generalize (w1.setCell (W0 0 0) (Value.slice a1 l.length cap1)).setCell (W0 0 1) q=W2 at *;generalize W0.heap.size=g at *;exact cl13):p:=h
end Ak0m
open Ak0m in
set_option maxHeartbeats 4000000 in
theorem synced_any (B:Nat) (a:Option Addr) (l:List ByteArray) (cap:Nat) (q t:Int) (w:World) (h:StrRow B a cap l w) (hl:l.length≤10000):
 Calls Tryz.prog 105 #[.agg #[.slice a l.length cap,q],t] w fun e w'=>∃a' cap',e=.returned (.agg #[.slice a' l.length cap',(syncV l.length q t)])∧StrRow w.heap.size a' cap' l w'∧Below w w w':=by
 have HC:Hid (∀W,Hst w W (.slice a l.length cap) q→Calls Tryz.prog 64 #[.slice a l.length cap] W fun e w'=>∃a1 cap1,e=.returned (.slice a1 l.length cap1)∧StrRow W.heap.size a1 cap1 l w'∧Below W W w'∧Hst w w' (.slice a l.length cap) q):=by
  intro W hW;refine (clone_any B a l cap W (h.below hW.bel) b10).mono ?_;rintro e w' ⟨v',rfl,ho,hb⟩;obtain ⟨a1,cap1,rfl,_,hr⟩:=StrRow.ofOwn ho;exact ⟨a1,cap1,rfl,hr,hb,hW.below hb hW.lt⟩
 clear h;go_enter Tryz.func105,Tryz.ntmps105;exact cm17
end Go.Proofs.YtimhaidiclbnhaaGreat.Con
