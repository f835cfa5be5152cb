import Derived.Test.YtimhaidiclbnhaaGreatP23
set_option linter.unusedSimpArgs false
set_option linter.unusedVariables false
set_option maxRecDepth 100000
open Go.ChangeShapes Go.WideShapes Go.ChangeAt Go.RowKit
namespace Go.Proofs.YtimhaidiclbnhaaGreat.Ver
open Des (Dv De Dn DIn DBlk DAns Vi At RowOf ints DSz numE numV lookV updD updE)
open Ara (Ar ARow)
open Con (StrRow)
structure Rq where
 f:Nat
 h:Nat
 s:Nat
def rC (q:Rq) (l:Ly) (s:St):List Value:=
 [σ,σ,I,I,I,I,I,I,I,I,σ,σ,I,I,l.pl,σ,σ,I,I,l.sc,σ,
  .slice l.x.oa l.x.o.length l.x.oc,.slice l.x.ta l.x.t.length l.x.tc,fx l.R s.scr.length,.slice (some (l.F 0)) s.fs.length q.f,fx l.A s.fs.length,fx l.L s.fs.length,.slice (some (l.H 0)) s.fs.length q.h,.slice (some (l.S 0)) s.fs.length q.s,fx l.N s.scr.length,fx l.B s.scr.length]
structure Rm (q:Rq) (B:Nat) (W:World) (l:Ly) (s:St):Prop where
 g:Mg (rC q) B W l s
 cf:s.fs.length≤q.f
 ch:s.fs.length≤q.h
 cs:s.fs.length≤q.s
section
variable {q:Rq} {B:Nat} {W W':World} {l:Ly} {s:St}
theorem Rm.below (h:Rm q B W l s) (hb:Below W W W'):Rm q B W' l s:=⟨h.g.below hb,h.cf,h.ch,h.cs⟩
theorem Rm.dz (h:Rm q B W l s) (hr:Des.Rt s.d):DSz l.x:=(Des.check_sz (Des.rt_check hr)).sz h.g.im.dp
theorem Rm.cO (h:Rm q B W l s):W.cell? (l.M 21)=some (.slice l.x.oa l.x.o.length l.x.oc)∧W.cell? (l.M 22)=some (.slice l.x.ta l.x.t.length l.x.tc):=⟨h.g.m.cell 21 _ rfl,h.g.m.cell 22 _ rfl⟩
theorem Rm.cR (h:Rm q B W l s):W.cell? (l.M 23)=some (.slice (some (l.R 0)) s.scr.length s.scr.length):=h.g.m.cell 23 _ rfl
theorem Rm.cF (h:Rm q B W l s):W.cell? (l.M 24)=some (.slice (some (l.F 0)) s.fs.length q.f):=h.g.m.cell 24 _ rfl
theorem Rm.cA (h:Rm q B W l s):W.cell? (l.M 25)=some (.slice (some (l.A 0)) s.fs.length s.fs.length):=h.g.m.cell 25 _ rfl
theorem Rm.cL (h:Rm q B W l s):W.cell? (l.M 26)=some (.slice (some (l.L 0)) s.fs.length s.fs.length):=h.g.m.cell 26 _ rfl
theorem Rm.cH (h:Rm q B W l s):W.cell? (l.M 27)=some (.slice (some (l.H 0)) s.fs.length q.h):=h.g.m.cell 27 _ rfl
theorem Rm.cS (h:Rm q B W l s):W.cell? (l.M 28)=some (.slice (some (l.S 0)) s.fs.length q.s):=h.g.m.cell 28 _ rfl
theorem Rm.cN (h:Rm q B W l s):W.cell? (l.M 29)=some (.slice (some (l.N 0)) s.scr.length s.scr.length):=h.g.m.cell 29 _ rfl
theorem Rm.cB (h:Rm q B W l s):W.cell? (l.M 30)=some (.slice (some (l.B 0)) s.scr.length s.scr.length):=h.g.m.cell 30 _ rfl
theorem Rm.cP (h:Rm q B W l s):W.cell? (l.M 14)=some l.pl:=h.g.m.cell 14 _ rfl
theorem Rm.cC (h:Rm q B W l s):W.cell? (l.M 19)=some l.sc:=h.g.m.cell 19 _ rfl
theorem Rm.free (h:Rm q B W l s) (j:Nat) (hj:j<31):W.frozen? (l.M j)=false:=h.g.m.free j (by simpa [rC] using hj)
theorem Rm.putO (h:Rm q B W l s) (y:Dv) (hy:Vi W (vx l) y):
 Rm q B ((W.setCell (l.M 21) (.slice y.oa y.o.length y.oc)).setCell (l.M 22) (.slice y.ta y.t.length y.tc)) {l with x:=y} {s with d:=y.pl}:=by
 obtain ⟨h,c1,c2,c3⟩:=h;obtain ⟨⟨a1,a2,a3,a4,a5,a6,a7,a8⟩,_⟩:=h.ne;have hk:Vk [l.M] W ((W.setCell (l.M 21) (.slice y.oa y.o.length y.oc)).setCell (l.M 22) (.slice y.ta y.t.length y.tc)):=(Vk.set W _ _ _ b11).trans (Vk.set _ _ _ _ b11);have hr:=h.rest (mvs l).1 hk;exact ⟨⟨⟨(hy.set (vs_vx (mvs l).1) 21 _).set (vs_vx (mvs l).1) 22 _,rfl,hr.im.ra,hr.im.rh,hr.im.sc⟩,(h.m.set 21 _).set 22 _,hr.f a1,hr.a a2,hr.la a3,hr.r a4,hr.h a5,hr.S a6,hr.n a7,hr.b a8,hr.rs h.nst.1,h.nd,h.lo,hr.hB,h.la',h.lh',h.lr',hr.hx⟩,c1,c2,c3⟩
theorem Rm.putF (h:Rm q B W l s) (f:Nat) (d:ByteArray):Rm q B (W.setCell (l.F f) (.string d)) l {s with fs:=s.fs.set f d}:=
 ⟨h.g.putFg f d (by simp [rC]),by simpa using h.cf,by simpa using h.ch,by simpa using h.cs⟩
end
set_option maxHeartbeats 8000000 in
theorem offset_any (q:Rq) (B:Nat) (l:Ly) (s:St) (n a:Int) (D:Dn) (W:World) (h:Rm q B W l s) (hr:Des.Rt s.d):
 Calls Tryz.prog 58 #[.pointer (some (l.M 0)),n,.agg #[D.fi,D.fl,D.f,D.cu,D.rf],a] W fun e w'=>∃y:Dv,e=.returned (.tuple #[])∧y.pl=updD s.d n a D.cu∧Rm q B w' {l with x:=y} {s with d:=y.pl}∧Vk (vs l) W w':=by
 have HU:Hid (∀W',Below W W W'→Calls Tryz.prog 82 #[.agg #[.slice l.x.oa l.x.o.length l.x.oc,.slice l.x.ta l.x.t.length l.x.tc],n,.agg #[D.fi,D.fl,a,D.cu,D.rf]] W' fun e w'=>∃y:Dv,e=.returned (.tuple #[.agg #[.slice y.oa y.o.length y.oc,.slice y.ta y.t.length y.tc],(updE s.d n a D.cu)])∧y.pl=updD s.d n a D.cu∧DAns W' l.x w' y∧Below W' W' w'):=Hd fun W' hb=>by
  have h1:=Des.updR_v l.x n D.fi D.fl a D.cu D.rf W' (h.below hb).g.im.di.di (h.dz hr);rw [h.g.im.dp] at h1;exact h1
 have HM:=Hd h;have HX:=Hd (At.new W [D.fi,D.fl,D.f,D.cu,D.rf] 126);have HB:Hid (Below W W (W.alloc (.cells ([D.fi,D.fl,D.f,D.cu,D.rf]:List Value).toArray 126))):=Hd (Br.alloc Nr _);clear h;generalize updE s.d n a D.cu=ue at *;go_enter Tryz.func58,Tryz.ntmps58;go_upto_region 1 with (fail)
 generalize World.alloc _ (Obj.cells #[D.fi,D.fl,D.f,D.cu,D.rf] 126)=W1 at *;obtain ⟨_,⟨x0,x1,x2,x3,x4⟩,xh⟩:=Des.At.five HX.out;go_upto_region 2 with (fail)
 replace HX:Hid (At (W1.setCell (W 0 2) a) W.heap.size [D.fi,D.fl,a,D.cu,D.rf]):=Hd (HX.out.set 2 _);replace HB:Hid (Below W W (W1.setCell (W 0 2) a)):=Hd (HB.out.setCell (p:=(W 0 2)) Nr _);clear x0 x1 x2 x3 x4 xh;generalize W1.setCell (W 0 2) a=W2 at *;replace HX:Hid (At W2.drew W.heap.size [D.fi,D.fl,a,D.cu,D.rf]):=Hd (Des.At.drew HX.out);replace HB:Hid (Below W W W2.drew):=Hd (HB.out.trans ((Below.refl W2 W2).drew.mono HB.out.size));obtain ⟨mO,mP⟩:=(HM.out.below HB.out).cO;obtain ⟨⟨d0,d1,d2,d3,d4⟩,_,_⟩:=Des.At.five HX.out;have z0:=(HM.out.below HB.out).free 21 b10;have z1:=(HM.out.below HB.out).free 22 b10;have z2:=(HM.out.below HB.out).g.m.hi
 (first|go_region_with (first|(go_at_call 82;refine (HU.out _ HB.out).mono ?_;rintro e w2 ⟨y,rfl,hpl,ha,hb⟩;have HA:=Hd ha;have HP:=Hd hpl;have HX2:=Hd (HX.out.below hb HX.out.hi);have HB2:=Hd (HB.out.trans (hb.mono HB.out.size));clear ha hpl hb mO mP d0 d1 d2 d3 d4 z0 z1 z2;have z0:=(HM.out.below HB2.out).free 21 b10;have z1:=(HM.out.below HB2.out).free 22 b10;have z2:=(HM.out.below HB2.out).g.m.hi;obtain ⟨⟨d0,d1,d2,d3,d4⟩,_,_⟩:=Des.At.five HX2.out;obtain ⟨mO,mP⟩:=(HM.out.below HB2.out).cO))|fail)
 all_goals
  go_wp2_with fail;go_end0;exact ⟨y,rfl,HP.out,(HM.out.below HB2.out).putO y (HA.out.vi (HM.out.below HB.out).g.im.di (HM.out.below HB.out).g.hix),(Vk.ofBelow HB2.out).trans ((Vk.set _ _ _ _ (mvs l).1).trans (Vk.set _ _ _ _ (mvs l).1))⟩
set_option maxHeartbeats 8000000 in
theorem changeM_any (q:Rq) (B:Nat) (l:Ly) (s:St) (f:Nat) (d:ByteArray) (W:World) (h:Rm q B W l s) (hf:f<s.fs.length) (hfh:f<s.h.length) (hn:s.fs.length≤1000) (hl:(s.h.getD f ([],0)).1.length≤10000):
 Calls Tryz.prog 55 #[.pointer (some (l.M 0)),f,.string d] W fun e w'=>∃hs:List Sl,e=.returned (.tuple #[])∧Rm q B w' {l with hs:=hs} (chS s f d)∧Vk (vs l) W w':=by
 have HM:=Hd h;obtain ⟨L,z,hp⟩:∃L z,s.h.getD f ([],0)=(L,z):=⟨_,_,rfl⟩
 obtain ⟨a,c,hsl⟩:∃a c,l.hs.getD f Sl.nil=⟨a,c⟩:=⟨_,_,rfl⟩
 have HCH:Hid (∀W',Rm q B W' l {s with fs:=s.fs.set f d}→Calls Tryz.prog 85 #[.agg #[.slice a L.length c,.int .i64 z],.string d] W' fun e w'=>∃a' cap',e=.returned (.agg #[.slice a' (L.length+1) cap',.int .i64 z])∧StrRow W'.heap.size a' cap' (L++[d]) w'∧Below W' W' w'):=Hd fun W' hm=>by
  have h1:=(hm.g.im.rh f hfh).1;rw [hsl] at h1;have h2:StrRow 0 a c L W':=by
   have e:(s.h.getD f ([],0)).1=L:=by rw [hp]
   rw [←e];exact h1
  exact Con.changeR_any 0 _ _ _ _ d W' h2 (by rw [hp] at hl;exact hl)
 have HH:Hid (∀W',Rm q B W' l {s with fs:=s.fs.set f d}→(W'.cell? (l.H (f*2))=some (.slice a L.length c)∧W'.cell? (l.H (f*2+1))=some (.int .i64 z))∧W'.frozen? (l.H (f*2))=false∧W'.frozen? (l.H (f*2+1))=false∧l.H<W'.heap.size):=Hd fun W' hm=>by
  obtain ⟨h1,h2⟩:=hC_at l.hs s.h f hfh;rw [hp,hsl] at h1;rw [hp] at h2;exact ⟨⟨hm.g.h.cell (f*2) _ h1,hm.g.h.cell (f*2+1) _ h2⟩,hm.g.h.free (f*2) b97,hm.g.h.free (f*2+1) b97,hm.g.h.hi⟩
 have HPP:Hid (chS s f d={s with fs:=s.fs.set f d,h:=s.h.set f (L++[d],z)}):=Hd (by unfold chS;rw [hp]);have HFH:=Hd hfh;have hFS:=h.cf;have hHS:=h.ch;clear hp hsl hl hfh;generalize chS s f d=s9 at *;have mF:=h.cF;have hfI:(f:Int)<(s.fs.length:Int):=b10;have hnI:(s.fs.length:Int)≤1000:=b10;have hqF:(s.fs.length:Int)≤(q.f:Int):=b10;have hqH:(s.fs.length:Int)≤(q.h:Int):=b10;have f0:=h.g.f.free f (by rw [List.length_map];exact hf);have f1:=h.g.f.hi;have f2:=h.g.f.cell f _ (fs_at s.fs f hf);have HK:=Hd (h.putF f d);have HV:Hid (Vk (vs l) W (W.setCell (l.F f) (.string d))):=Hd (Vk.set _ _ _ _ (mvs l).2.1);clear h hFS hHS;go_enter Tryz.func55,Tryz.ntmps55;go_upto_region 1 with (fail)
 generalize W.setCell (l.F f) (.string d)=W2 at *;replace HK:Hid (Rm q B W2.drew l {s with fs:=s.fs.set f d}):=Hd (HK.out.below Br.drew);clear mF f0 f1 f2;have mH:W2.drew.cell? (l.M 27)=some (.slice (some (l.H 0)) s.fs.length q.h):=b96;obtain ⟨⟨g0,g1⟩,g2,g3,g4⟩:=HH.out _ HK.out;have HKd:=HK
 (first|go_region_with (first|(go_at_call 85;refine (HCH.out _ HK.out).mono ?_;rintro e w3 ⟨a',c',rfl,hs,hb⟩;have HS:=Hd hs;have HBB:=Hd hb;replace HK:=Hd (HK.out.below hb);clear hs hb mH g0 g1 g2 g3 g4;have mH:w3.cell? (l.M 27)=some (.slice (some (l.H 0)) s.fs.length q.h):=b96;obtain ⟨⟨g0,g1⟩,g2,g3,g4⟩:=HH.out _ HK.out))|fail)
 all_goals
  go_wp2_with fail; go_end0; refine ⟨l.hs.set f ⟨a', c'⟩, rfl, ?_, ((HV.out.trans (Vk.ofBelow Br.drew)).trans (Vk.ofBelow HBB.out)).trans ((Vk.set _ _ _ _ (mvs l).2.2.2.2.2.1).trans (Vk.set _ _ _ _ (mvs l).2.2.2.2.2.1))⟩; have hput := HK.out.g.putH f HFH.out a' c' (L ++ [d]) z (Con.StrRow.mono HS.out (Nat.zero_le _)) (fun q hq hm=>by
   rcases HS.out with ⟨h2,_⟩|⟨g,h2,h3,_⟩
   ·rw [h2] at hq;cases hq
   ·rw [h2] at hq;cases hq;have h1:g<W2.drew.heap.size:=HKd.out.g.hix _ hm;omega)
  rw [HPP.out];rw [List.length_append,List.length_singleton] at hput;exact ⟨hput,HK.out.cf,HK.out.ch,HK.out.cs⟩
open Des (Dv De Dn DIn DBlk DAns Vi At RowOf ints DSz)
def syS (s:St) (f:Nat) (x:Ev):St:=
 if x.er=0∧0≤x.bg∧x.bg<((s.st.getD f []).length:Int) then {s with h:=s.h.set f ((s.h.getD f ([],0)).1,Con.syncV (s.h.getD f ([],0)).1.length (s.h.getD f ([],0)).2 ((s.st.getD f []).getD x.bg.toNat 0-1))} else s
namespace Ae17
theorem km28 {p : Prop} (h:p:=by
 refine tk 11 ?_;refine tk 12 ?_;refine tk 13 ?_;refine tk 14 ?_;refine tk 16 ?_;refine tk 17 ?_;refine tk 18 ?_;refine tk 19 ?_;refine tk 20 ?_;refine wpAnyH_ready (rs:=[15]) b12 b11 ?_;refine AllReadyH.cons (o:=⟨some 51,.load 57 (.tmp 50),57,_,#[⟨14,.data⟩],none⟩) rfl (fun KQ hKQ=>?_) AllReadyH.nil;go_simp;refine hKQ.out _ _ b15 (fun hHeld=>?_);clear hKQ KQ;try go_frame
 refine wpAnyH_ready (rs:=[21]) b12 b11 ?_;refine AllReadyH.cons (o:=⟨some 57,.call {callee:=.value (.func 105),args:=#[.tmp 51,.tmp 56],argTypes:=#[57,3]},57,_,#[⟨15,.data⟩,⟨20,.data⟩],none⟩) rfl (fun KQ hKQ=>?_) AllReadyH.nil;go_simp;go_at_call 105;refine (HCH.out y _ _ HM.out).mono ?_;rintro e w3 ⟨a',c',rfl,hs,hb⟩;have HSR:=Hd hs;have HBB:=Hd hb;replace HT:=Hd (HT.out.below hb HT.out.hi);replace HK:=Hd (HK.out.below hb HK.out.hi);replace HM:=Hd (HM.out.below hb);clear hs hb t0 d0 mH gz g0 g1 g2 g3 g4;have t0:=HT.out.cell 0 (.pointer (some (l.M 0))) b13;have d0:w3.cell? (K 0)=some (f:U):=(by rw [←HD.out];exact HK.out.cell 0 _ rfl);have mH:w3.cell? (l.M 27)=some (.slice (some (l.H 0)) s.fs.length s.fs.length):=HM.out.cH;have gz:=HRW.out _ HM.out;obtain ⟨⟨g0,g1⟩,g2,g3,g4⟩:=HH.out y _ HM.out;go_wp2_with fail;refine hKQ.out _ _ b15 (fun hHeld=>?_);clear hKQ KQ;try go_frame
 refine tk 22 ?_;refine wpAnyH_ready (rs:=[23]) b12 b11 ?_;refine AllReadyH.cons (o:=⟨none,.store 57 (.tmp 58) (.tmp 57),0,_,#[⟨22,.data⟩,⟨21,.data⟩,⟨21,.chain⟩,⟨0,.phase⟩,⟨1,.phase⟩,⟨2,.phase⟩,⟨3,.phase⟩,⟨4,.phase⟩,⟨5,.phase⟩,⟨6,.phase⟩,⟨7,.phase⟩,⟨8,.phase⟩,⟨9,.phase⟩,⟨10,.phase⟩,⟨11,.phase⟩,⟨12,.phase⟩,⟨13,.phase⟩,⟨14,.phase⟩,⟨15,.phase⟩,⟨16,.phase⟩,⟨17,.phase⟩,⟨18,.phase⟩,⟨19,.phase⟩,⟨20,.phase⟩,⟨21,.phase⟩],none⟩) rfl (fun KQ hKQ=>?_) AllReadyH.nil;go_simp;refine hKQ.out _ _ b15 (fun hHeld=>?_);clear hKQ KQ;try go_frame
 refine wpAnyH_done b12 ?_ _; go_wp2_with fail; go_end0; refine ⟨y, l.ar, l.hs.set f ⟨a', c'⟩, rfl, ?_, ((HV.out.trans (Vk.ofBelow Br.drew)).trans (Vk.ofBelow HBB.out)).trans ((Vk.set _ _ _ _ (mvs l).2.2.2.2.2.1).trans (Vk.set _ _ _ _ (mvs l).2.2.2.2.2.1))⟩; have hput := HM.out.putH f HFH.out a' c' L (Con.syncV L.length q (z - 1)) (Con.StrRow.mono HSR.out (Nat.zero_le _)) (fun q hq hm=>by
  rcases HSR.out with ⟨h2,_⟩|⟨g,h2,h3,_⟩
  ·rw [h2] at hq;cases hq
  ·rw [h2] at hq;cases hq;have h1:g<W1.drew.heap.size:=HKd.out.hix _ hm;omega)
 rw [HS9.out];exact hput):p:=h
end Ae17
open Ae17 in
set_option maxHeartbeats 16000000 in
theorem clo104 (B:Nat) (l:Ly) (s:St) (p:Int) (o:Opr) (x:Ev) (n:Int) (D:Dn) (f:Nat) (T N K:Nat) (W:World) (h:Mm B W l s) (hr:Des.Rt s.d) (hf:f<s.fs.length) (hfh:f<s.h.length) (hfs:f<s.st.length) (hn:s.fs.length≤1000) (hl:(s.h.getD f ([],0)).1.length≤10000) (hsl:(s.st.getD f []).length≤10000) (hst:∀z,z∈s.st.getD f []→0≤z∧z≤1000000) (hD:D.fi=(f:Int)) (hT:At W T (stepC l.M p o x)) (hN:At W N [n]) (hK:At W K (dnL D)) (vT:T∉vs l) (vK:K∉vs l):
 Calls Tryz.prog 104 #[.pointer (some (T 0)),.pointer (some (N 0)),.pointer (some (K 0))] W fun e w3=>∃x' ar' hs',e=.returned (.tuple #[])∧Mm B w3 {l with x:=x',ar:=ar',hs:=hs'} (syS {s with d:=Des.updD s.d n D.f D.cu} f x)∧Vk (vs l) W w3:=by
 have HU:=Hd (update_any B l s p o x n D W h hr);obtain ⟨L,q,hp⟩:∃L q,s.h.getD f ([],0)=(L,q):=⟨_,_,rfl⟩
 obtain ⟨a,c,hsl2⟩:∃a c,l.hs.getD f Sl.nil=⟨a,c⟩:=⟨_,_,rfl⟩
 obtain ⟨R,hR⟩:∃R,s.st.getD f []=R:=⟨_,rfl⟩
 obtain ⟨sa,sc,hss⟩:∃sa sc,l.st.getD f Sl.nil=⟨sa,sc⟩:=⟨_,_,rfl⟩
 have HH:Hid (∀(y:Dv) W',Mm B W' {l with x:=y} {s with d:=y.pl}→(W'.cell? (l.H (f*2))=some (.slice a L.length c)∧W'.cell? (l.H (f*2+1))=some (.int .i64 q))∧W'.frozen? (l.H (f*2))=false∧W'.frozen? (l.H (f*2+1))=false∧l.H<W'.heap.size):=Hd fun y W' hm=>by
  obtain ⟨h1,h2⟩:=hC_at l.hs s.h f hfh;rw [hp,hsl2] at h1;exact cl71
 have HS:Hid (∀(y:Dv) W',Mm B W' {l with x:=y} {s with d:=y.pl}→W'.cell? (l.S f)=some (.slice sa R.length sc)∧RowOf W' sa R.length sc (ints R)):=Hd fun y W' hm=>by
  have h1:=slC_at l.st s.st f hfs;rw [hR,hss] at h1;have h2:=hm.rs f hfs;have h3:W'.ownsRow B 3 1 (.slice sa R.length sc) R.length (ints R):=by
   have e:({l with x:=y}:Ly).st.getD f Sl.nil=⟨sa,sc⟩:=hss;have e2:({s with d:=y.pl}:St).st.getD f []=R:=hR;rw [e,e2] at h2;exact h2
  exact ⟨hm.S.cell f _ h1,Des.RowOf.ofOwn h3⟩
 have HSB:Hid (∀g of,sa=some ⟨g,of,none⟩→g≠l.H):=Hd fun g of e hg=>h.nst.2.2.2.2.2.1 (hg▸h.sn hfs (q:=g) (by rw [hss];simp [e,Value.ownBlock]));have HCH:Hid (∀(y:Dv) (t:Int) W',Mm B W' {l with x:=y} {s with d:=y.pl}→Calls Tryz.prog 105 #[.agg #[.slice a L.length c,.int .i64 q],t] W' fun e w'=>∃a' cap',e=.returned (.agg #[.slice a' L.length cap',(Con.syncV L.length q t)])∧StrRow W'.heap.size a' cap' L w'∧Below W' W' w'):=Hd fun y t W' hm=>by
  have h1:=(hm.im.rh f hfh).1;rw [show ({l with x:=y}:Ly).hs.getD f Sl.nil=⟨a,c⟩ from hsl2] at h1;have h2:StrRow 0 a c L W':=by
   have e:(s.h.getD f ([],0)).1=L:=by rw [hp]
   rw [←e];exact h1
  exact Con.synced_any 0 a L c q t W' h2 (by rw [hp] at hl;exact hl)
 have HPP:Hid (∀d:De,syS {s with d:=d} f x=if x.er=0∧0≤x.bg∧x.bg<(R.length:Int) then {s with d:=d,h:=s.h.set f (L,Con.syncV L.length q (R.getD x.bg.toNat 0-1))} else {s with d:=d}):=Hd (by intro d;unfold syS;simp only [hR,hp]);rw [hR] at hsl hst;obtain ⟨cs,hcs⟩:∃cs,cs=stepC l.M p o x:=⟨_,rfl⟩
 have HCS:=Hd hcs;unfold stepV at HU;rw [←hcs] at hT HU;have HT:=Hd hT;have HK:=Hd hK;have HM0:=Hd h;have n0:=hN.cell 0 _ rfl;obtain ⟨⟨d0,d1,d2,d3,d4⟩,_,_⟩:=Des.At.five hK;have HFH:=Hd hfh;have HD:=Hd hD;clear h hT hN hK hcs hp hsl2 hR hss hl hfh hfs hD;rw [HPP.out];clear HPP;generalize Des.updD s.d n D.f D.cu=dd at *;obtain ⟨s9,hs9⟩:∃s9,s9=(if x.er=0∧0≤x.bg∧x.bg<(R.length:Int) then {s with d:=dd,h:=s.h.set f (L,Con.syncV L.length q (R.getD x.bg.toNat 0-1))} else {s with d:=dd}):=⟨_,rfl⟩
 rw [←hs9];have HS9:=Hd hs9;clear hs9;go_enter Tryz.func104,Tryz.ntmps104;go_wp2_with (with_reducible refine Des.hold_load 122 rfl ?_)
 refine Des.load_ato 0 HT.out.r Tryz.underlying122 rfl b28 rfl rfl rfl ?_;go_wp2_with fail;refine HU.out.mono ?_;rintro e w' ⟨y,rfl,hpl,hm,hv⟩;subst hpl;have HM:=Hd hm;have HV:=Hd hv;replace HT:=Hd (HV.out.at HT.out vT);replace HK:=Hd (HV.out.at HK.out vK);clear hm hv HU d0 d1 d2 d3 d4 n0;have t0:=HT.out.cell 0 (.pointer (some (l.M 0))) b13;have t16:=HT.out.cell 16 (.int .i64 x.bg) b13;have t17:=HT.out.cell 17 (.int .i64 x.er) b13;have d0:w'.cell? (K 0)=some (f:U):=by rw [←HD.out];exact HK.out.cell 0 _ rfl
 have mS:w'.cell? (l.M 28)=some (.slice (some (l.S 0)) s.fs.length s.fs.length):=HM.out.cS;have mr:=(HS.out y _ HM.out).1;have hfI:(f:Int)<(s.fs.length:Int):=b10;have hnI:(s.fs.length:Int)≤1000:=b10;have hRl:(R.length:Int)≤10000:=b10;go_wp2_with fail;go_quiet (fail);replace HM:=Hd (HM.out.below (below_drewN Br nq));replace HT:=Hd (HT.out.below (below_drewN (Below.refl w' w') nq) HT.out.hi);replace HK:=Hd (HK.out.below (below_drewN (Below.refl w' w') nq) HK.out.hi);replace HV:=Hd (HV.out.trans (Vk.ofBelow (below_drewN (Below.refl w' w') nq)));clear t0 t16 t17 d0 mS mr;generalize w'.drewN nq=W1 at *;have t17:=HT.out.cell 17 (.int .i64 x.er) b13;by_cases hc:x.er=0∧0≤x.bg∧x.bg<(R.length:Int)
 ·replace HS9:=Hd (HS9.out.trans (if_pos hc));obtain ⟨c1,c2,c3⟩:=hc;rw [c1] at t17;obtain ⟨i,hi⟩:∃i:Nat,x.bg=(i:Int):=⟨x.bg.toNat,by omega⟩
  rw [hi,Int.toNat_natCast] at HS9;have hiR:i<R.length:=b10;obtain ⟨g,of,e1,e2,e3,e4,e5⟩:=(HS.out y _ HM.out).2.at b10;subst e1;rw [hi] at c2 c3;have hz:=hst (R.getD i 0) b127;have gz:W1.cell? ⟨g,of+i,none⟩=some ((R.getD i 0):U):=e5 i _ (Des.ints_at R i hiR);have HGZ:Hid (g∉vs l∨True):=Hd (Or.inr trivial);have HRW:Hid (∀W',Mm B W' {l with x:=y} {s with d:=y.pl}→W'.cell? ⟨g,of+i,none⟩=some ((R.getD i 0):U)):=Hd fun W' hm=>by
   obtain ⟨g2,o2,k1,_,_,_,k5⟩:=(HS.out y _ hm).2.at b10;cases k1;exact k5 i _ (Des.ints_at R i hiR)
  generalize R.getD i 0=z at *;have hzw:wrap64 (z-1)=z-1:=IntWalk.wrap64_in _ b10;have hzw2:IntKind.i64.wrap (z-1)=z-1:=IntWalk.i64_in _ b10;go_upto_region 3 with (fail)
  replace HM:=Hd (HM.out.below Br.drew);replace HT:=Hd (Des.At.drew HT.out);replace HK:=Hd (Des.At.drew HK.out);clear t17 gz;have HKd:=HM;have t0:=HT.out.cell 0 (.pointer (some (l.M 0))) b13;have d0:W1.drew.cell? (K 0)=some (f:U):=(by rw [←HD.out];exact HK.out.cell 0 _ rfl);have mH:W1.drew.cell? (l.M 27)=some (.slice (some (l.H 0)) s.fs.length s.fs.length):=HM.out.cH;have gz:=HRW.out _ HM.out;obtain ⟨⟨g0,g1⟩,g2,g3,g4⟩:=HH.out y _ HM.out;have e1:¬T=l.H:=fun e=>vT (by rw [e];exact (mvs l).2.2.2.2.2.1);have e2:¬l.H=T:=fun e=>e1 e.symm;have e3:¬l.M=l.H:=HM0.out.ne.1.2.2.2.2.1;have e4:¬l.H=l.M:=fun e=>e3 e.symm;have e5:¬K=l.H:=fun e=>vK (by rw [e];exact (mvs l).2.2.2.2.2.1);have e6:¬l.H=K:=fun e=>e5 e.symm;have e7:¬g=l.H:=HSB.out g of rfl;have e8:¬l.H=g:=fun e=>e7 e.symm;refine wp_region_held_drew (S:=fun w'=>w'.cell? (T 0)=some (.pointer (some (l.M 0)))∧w'.cell? (K 0)=some (f:U)∧w'.cell? (l.M 27)=some (.slice (some (l.H 0)) s.fs.length s.fs.length)∧w'.cell? ⟨g,of+i,none⟩=some (.int .i64 z)) b12 b15 (fun hHeld=>?_);exact cm28
 ·replace HS9:=Hd (HS9.out.trans (if_neg hc));have HC9:=Hd hc;clear hc;have hfin:Hid (∃x' ar' hs',(Ending.returned (.tuple #[]):Ending)=.returned (.tuple #[])∧Mm B W1 {l with x:=x',ar:=ar',hs:=hs'} s9∧Vk (vs l) W W1):=Hd ⟨y,l.ar,l.hs,rfl,by rw [HS9.out];exact HM.out,HV.out⟩;by_cases c1:x.er=0
  ·rw [c1] at t17;by_cases c2:0≤x.bg
   ·have c3:¬x.bg<(R.length:Int):=fun e=>HC9.out ⟨c1,c2,e⟩;clear c1;exact cl55
   ·have c2':x.bg<0:=b10;clear c1;exact cl55
  ·have c1':(x.er==0)=false:=by simpa using c1
   exact cl55
end Go.Proofs.YtimhaidiclbnhaaGreat.Ver
