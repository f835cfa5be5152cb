import Derived.Test.YtimhaidiclbnhaaGreatP15
import Derived.Test.YtimhaidiclbnhaaGreatP16
import Derived.Test.YtimhaidiclbnhaaGreatP17
set_option linter.unusedSimpArgs false
set_option linter.unusedVariables false
set_option maxRecDepth 100000
open Go.ChangeShapes Go.WideShapes Go.ChangeAt Go.RowKit
namespace Go.Proofs.YtimhaidiclbnhaaGreat.Des
namespace Awb4
theorem km3 {p : Prop} (h:p:=by
 generalize OutP w x (closeD x.pl p f) (fun v=>.tuple #[v,.bool (closeG x.pl p f),(numE x.pl p f)])=Post at *;generalize closeD x.pl p f=od at *;generalize closeG x.pl p f=og at *;generalize numE x.pl p f=ne at *;generalize numV x.pl p f=nv at *;generalize tabAt x.pl p=T at *;generalize lookV x.pl p f=lv at *;unfold dVal;obtain ⟨d0,d1,d2,d3,d4⟩:=lv;simp only at HLK;go_enter Tryz.func56,Tryz.ntmps56;exact cm26):p:=h
theorem km26 {p : Prop} (h:p:=by
 by_cases hne:ne=0
 ·exact cm85
 ·have HOG2:Hid (og=false):=by have:=HOG.out;rw [decide_eq_false hne,Bool.false_and] at this;exact this
  have HOD2:Hid (od=x.pl):=by have:=HOD.out;rw [if_neg hne] at this;exact this
  exact cm98):p:=h
theorem km31 {p : Prop} (h:p:=by
 exact cm3):p:=h
theorem km52 {p : Prop} (h:p:=by
 have q1y:(k:Int)<(y.t.length:Int):=b10;clear hyt hyo hyT;go_upto_region 5 with (fail)
 rw [←hw6,←hO];clear hw6 hO r0 r1 r2 r3 r4 HR2;have hyT:=HYTT.out;have q3:=Q3.out;have hj16:j<16:=b10;exact cm113):p:=h
theorem km58 {p : Prop} (h:p:=by
 exact cm31):p:=h
theorem km79 {p : Prop} (h:p:=by
 generalize (wr.setCell (w 1 0) (.slice (some (g3 0)) (m'+1) y.oc)).setCell (w 1 1) (.slice (some (g4 0)) y.t.length y.tc)=w9 at *;exact bodyPost_ret (v:=.tuple #[.agg #[.slice (some (g3 0)) (m'+1) y.oc,.slice (some (g4 0)) y.t.length y.tc],.bool true,I]) b87 rfl HPo.out):p:=h
theorem km85 {p : Prop} (h:p:=by
 obtain ⟨r0,r1,r2,r3,r4⟩:=HR2.out.two;go_wp2_with fail;refine (HC.out w2 HB2.out).mono ?_;exact cm125):p:=h
theorem km98 {p : Prop} (h:p:=by
 rw [HOG2.out] at hpo;have HPo:=Hd hpo;clear hA5 hD5 hB5 hpo;go_wp2_with fail;generalize ((w2.setCell (w 1 0) (.slice x.oa x.o.length x.oc)).setCell (w 1 1) (.slice x.ta x.t.length x.tc))=w9 at *;exact bodyPost_ret (v:=.tuple #[.agg #[.slice x.oa x.o.length x.oc,.slice x.ta x.t.length x.tc],.bool false,ne]) b87 rfl HPo.out):p:=h
theorem km99 {p : Prop} (h:p:=by
 generalize hwB:((w6.setCell (g5 j) I).setCell (g3 (q*5+4)) (.int .i64 (rf-1)))=wB at *;exact cm135):p:=h
theorem km111 {p : Prop} (h:p:=by
 go_loopw [] (fun wr=>∃m:Nat,Hid (m≤O1.length∧0<O1.length∧trim O1=trim (O1.take m))∧Hid (Fr w x wr (w.heap.size+2) (w.heap.size+1) O ⟨some ⟨g3,0,none⟩,y.oc,O1.take m,y.ta,y.tc,tset y.t k j 0⟩)) (fun wr=>lenAt wr O)
 case atStart=>exact ⟨O1.length,⟨Nat.le_refl _,by rw [HL1.out];omega,by rw [List.take_length]⟩,by rw [List.take_length];exact HFC⟩
 case round=>
  exact cm138):p:=h
theorem km113 {p : Prop} (h:p:=by
 have hjT:(j:Int)<(T.length:Int):=b10;have hqy:q<y.o.length:=by rw [HYO.out];exact HQ.out
 obtain ⟨g3,b1,b2,b3,b4,b5,b6,b7⟩:=HFR.out.wk.own.descAt q hqy;rw [←HYO.out] at HRF HOG HOD;have hrf0:=HRF.out;have k4:=b4.c4;have HF8:=Hd (HFR.out.turn ((Below.refl (w.heap.size+2) w6).setCell (p:=(g5 j)) c10 (.int .i64 0)) (HFR.out.wk.putT k hkt c4 j 0));exact cm99):p:=h
theorem km122 {p : Prop} (h:p:=by
 exact bodyPost_ret (v:=.tuple #[.agg #[.slice (some (g3 0)) y.o.length y.oc,.slice (some (g4 0)) y.t.length y.tc],.bool false,I]) b87 rfl HPo.out):p:=h
theorem km123 {p : Prop} (h:p:=by
 exact bodyPost_ret (v:=.tuple #[.agg #[.slice (some (g3 0)) 0 y.oc,.slice (some (g4 0)) y.t.length y.tc],.bool true,I]) b87 rfl HPo.out):p:=h
theorem km125 {p : Prop} (h:p:=by
 exact cm52):p:=h
theorem km134 {p : Prop} (h:p:=by
 by_cases he:e.rf=0
 ·exact cl19
 ·have hfin:trim O1=O1.take (m'+1):=by rw [HTR.out,HTD.out,trim_keep _ _ he]
  have HFIN:=Hd hfin;have he1:(e.rf==0)=false:=by simpa using he
  clear hfin HTD;generalize e.rf=erf at *;clear he;exact cm79):p:=h
theorem km135 {p : Prop} (h:p:=by
 by_cases hrp:0<rf-1
 ·exact cm122
 ·exact cm111):p:=h
theorem km138 {p : Prop} (h:p:=by
 by_cases hm0:0<m
 ·exact cm134
 ·exact cm123):p:=h
end Awb4
open Awb4 in
set_option maxHeartbeats 8000000 in
theorem closeR_any (x:Dv) (p f:Int) (w:World) (h:DIn w x) (hz:DSz x):
 Calls Tryz.prog 56 #[dVal x,p,f] w (OutP w x (closeD x.pl p f) (fun v=>.tuple #[v,.bool (closeG x.pl p f),(numE x.pl p f)])):=by
 exact cm58
theorem RowOf.blk {w:World} {a:Option Addr} {n cap:Nat} {cs:List Value} (h:RowOf w a n cap cs) {q:Addr} (hq:a=some q):q.block<w.heap.size:=by
 rcases h with ⟨h,_⟩|⟨g,o,h1,h2,_⟩
 ·rw [h] at hq;cases hq
 ·rw [h1] at hq;cases hq;exact h2
theorem DIn.blk {W:World} {x:Dv} (h:DIn W x) {b:Nat} (hb:DBlk x b):b<W.heap.size:=by
 rcases hb with ⟨q,h1,rfl⟩|⟨q,h1,rfl⟩|⟨z,hz,q,h1,rfl⟩
 ·exact h.o.blk h1
 ·exact h.t.blk h1
 ·exact (h.e z hz).blk h1
theorem DIn.keepB {W W':World} {x:Dv} (h:DIn W x) (hs:W.heap.size≤W'.heap.size) (hk:∀b,DBlk x b→W'.heap[b]? =W.heap[b]?):DIn W' x:=
 ⟨h.o.keep hs fun g o e _ i=>World.cell?_of_block (w:=W) (a:=⟨g,i,none⟩) (hk g (Or.inl ⟨_,e,rfl⟩)),
  h.t.keep hs fun g o e _ i=>World.cell?_of_block (w:=W) (a:=⟨g,i,none⟩) (hk g (Or.inr (Or.inl ⟨_,e,rfl⟩))),
  fun y hy=>(h.e y hy).keep hs fun g o e _ i=>World.cell?_of_block (w:=W) (a:=⟨g,i,none⟩) (hk g (Or.inr (Or.inr ⟨y,hy,_,e,rfl⟩)))⟩
structure Vi (W:World) (V:List Nat) (x:Dv):Prop where
 di:DIn W x
 out:∀b,DBlk x b→b∉V
theorem Vi.below {W W':World} {V:List Nat} {x:Dv} (h:Vi W V x) (hb:Below W W W'):Vi W' V x:=⟨h.di.below hb,h.out⟩
theorem Vi.set {W:World} {V:List Nat} {x:Dv} {D:Nat} (h:Vi W V x) (hD:D∈V) (o:Nat) (v:Value):Vi (W.setCell (D o) v) V x:=
 ⟨h.di.keepB (by simp [World.setCell]) fun b hb=>Below.heap_setCell W ⟨D,o,none⟩ v b (fun e=>h.out b hb (e▸hD)),h.out⟩
theorem DAns.vi {W W':World} {V:List Nat} {x y:Dv} (h:DAns W x W' y) (hx:Vi W V x) (hV:∀b,b∈V→b<W.heap.size):Vi W' V y:=
 ⟨h.di,fun b hb hm=>by
  rcases h.blk b hb with h1|h1
  ·exact hx.out b h1 hm
  ·have:=hV b hm;omega⟩
theorem At.tick {W W':World} {b t:Nat} {cs:List Value} (h:At W b cs) (hk:Tick t W W') (hne:b≠t):At W' b cs:=by
 have hb:=hk.block b hne;refine ⟨fun j u hj=>(World.cell?_of_block (w:=W) (a:=⟨b,0+j,none⟩) hb).trans (h.r j u hj),fun j hj=>?_,by rw [hk.size];exact h.hi⟩;rw [World.cell?_of_block (w:=W) (a:=⟨b,0+j,none⟩) hb,World.frozen?_of_block (w:=W) (a:=⟨b,0+j,none⟩) hb];exact h.t j hj
theorem At.tock {W W':World} {b t:Nat} {cs:List Value} (h:At W b cs) (hk:Tock t W W') (hne:b≠t):At W' b cs:=by
 have hb:=hk.block b hne h.hi;refine ⟨fun j u hj=>(World.cell?_of_block (w:=W) (a:=⟨b,0+j,none⟩) hb).trans (h.r j u hj),fun j hj=>?_,Nat.lt_of_lt_of_le h.hi hk.size⟩;rw [World.cell?_of_block (w:=W) (a:=⟨b,0+j,none⟩) hb,World.frozen?_of_block (w:=W) (a:=⟨b,0+j,none⟩) hb];exact h.t j hj
theorem open_v (x:Dv) (p fi fl c:Int) (W:World) (h:DIn W x) (hz:DSz x):Calls Tryz.prog 87 #[.agg #[.slice x.oa x.o.length x.oc,.slice x.ta x.t.length x.tc],p,fi,fl,c] W fun e w'=>∃y:Dv,e=.returned (.tuple #[.agg #[.slice y.oa y.o.length y.oc,.slice y.ta y.t.length y.tc],(openF x.pl p fi fl c),(openE x.pl p fi fl c)])∧y.pl=openD x.pl p fi fl c∧DAns W x w' y∧Below W W w':=
 (open_any x p fi fl c W h hz).mono fun e w' ⟨y,h1,h2,h3,h4⟩=>⟨y,h1,h2,h3,h4⟩
theorem openR_v (x:Dv) (p fi fl c:Int) (W:World) (h:DIn W x) (hz:DSz x):Calls Tryz.prog 32 #[.agg #[.slice x.oa x.o.length x.oc,.slice x.ta x.t.length x.tc],p,fi,fl,c] W fun e w'=>∃y:Dv,e=.returned (.tuple #[.agg #[.slice y.oa y.o.length y.oc,.slice y.ta y.t.length y.tc],(openF x.pl p fi fl c),(openE x.pl p fi fl c)])∧y.pl=openD x.pl p fi fl c∧DAns W x w' y∧Below W W w':=
 (openR_any x p fi fl c W h hz).mono fun e w' ⟨y,h1,h2,h3,h4⟩=>⟨y,h1,h2,h3,h4⟩
theorem dup_v (x:Dv) (p f:Int) (W:World) (h:DIn W x) (hz:DSz x):Calls Tryz.prog 113 #[.agg #[.slice x.oa x.o.length x.oc,.slice x.ta x.t.length x.tc],p,f] W fun e w'=>∃y:Dv,e=.returned (.tuple #[.agg #[.slice y.oa y.o.length y.oc,.slice y.ta y.t.length y.tc],(dupF x.pl p f),(dupE x.pl p f)])∧y.pl=dupD x.pl p f∧DAns W x w' y∧Below W W w':=
 (dup_any x p f W h hz).mono fun e w' ⟨y,h1,h2,h3,h4⟩=>⟨y,h1,h2,h3,h4⟩
theorem dupR_v (x:Dv) (p f:Int) (W:World) (h:DIn W x) (hz:DSz x):Calls Tryz.prog 63 #[.agg #[.slice x.oa x.o.length x.oc,.slice x.ta x.t.length x.tc],p,f] W fun e w'=>∃y:Dv,e=.returned (.tuple #[.agg #[.slice y.oa y.o.length y.oc,.slice y.ta y.t.length y.tc],(dupF x.pl p f),(dupE x.pl p f)])∧y.pl=dupD x.pl p f∧DAns W x w' y∧Below W W w':=
 (dupR_any x p f W h hz).mono fun e w' ⟨y,h1,h2,h3,h4⟩=>⟨y,h1,h2,h3,h4⟩
theorem close_v (x:Dv) (p f:Int) (W:World) (h:DIn W x) (hz:DSz x):Calls Tryz.prog 89 #[.agg #[.slice x.oa x.o.length x.oc,.slice x.ta x.t.length x.tc],p,f] W fun e w'=>∃y:Dv,e=.returned (.tuple #[.agg #[.slice y.oa y.o.length y.oc,.slice y.ta y.t.length y.tc],.bool (closeG x.pl p f),(numE x.pl p f)])∧y.pl=closeD x.pl p f∧DAns W x w' y∧Below W W w':=
 (close_any x p f W h hz).mono fun e w' ⟨y,h1,h2,h3,h4⟩=>⟨y,h1,h2,h3,h4⟩
theorem closeR_v (x:Dv) (p f:Int) (W:World) (h:DIn W x) (hz:DSz x):Calls Tryz.prog 56 #[.agg #[.slice x.oa x.o.length x.oc,.slice x.ta x.t.length x.tc],p,f] W fun e w'=>∃y:Dv,e=.returned (.tuple #[.agg #[.slice y.oa y.o.length y.oc,.slice y.ta y.t.length y.tc],.bool (closeG x.pl p f),(numE x.pl p f)])∧y.pl=closeD x.pl p f∧DAns W x w' y∧Below W W w':=
 (closeR_any x p f W h hz).mono fun e w' ⟨y,h1,h2,h3,h4⟩=>⟨y,h1,h2,h3,h4⟩
theorem upd_v (x:Dv) (n fi fl f c rf:Int) (W:World) (h:DIn W x) (hz:DSz x):Calls Tryz.prog 98 #[.agg #[.slice x.oa x.o.length x.oc,.slice x.ta x.t.length x.tc],n,.agg #[fi,fl,f,c,rf]] W fun e w'=>∃y:Dv,e=.returned (.tuple #[.agg #[.slice y.oa y.o.length y.oc,.slice y.ta y.t.length y.tc],(updE x.pl n f c)])∧y.pl=updD x.pl n f c∧DAns W x w' y∧Below W W w':=
 (upd_any x n fi fl f c rf W h hz).mono fun e w' ⟨y,h1,h2,h3,h4⟩=>⟨y,h1,h2,h3,h4⟩
theorem updR_v (x:Dv) (n fi fl f c rf:Int) (W:World) (h:DIn W x) (hz:DSz x):Calls Tryz.prog 82 #[.agg #[.slice x.oa x.o.length x.oc,.slice x.ta x.t.length x.tc],n,.agg #[fi,fl,f,c,rf]] W fun e w'=>∃y:Dv,e=.returned (.tuple #[.agg #[.slice y.oa y.o.length y.oc,.slice y.ta y.t.length y.tc],(updE x.pl n f c)])∧y.pl=updD x.pl n f c∧DAns W x w' y∧Below W W w':=
 (updR_any x n fi fl f c rf W h hz).mono fun e w' ⟨y,h1,h2,h3,h4⟩=>⟨y,h1,h2,h3,h4⟩
theorem new26_v (p:Int) (W:World):Calls Tryz.prog 42 #[p] W fun e w'=>∃y:Dv,e=.returned (.tuple #[.agg #[.slice y.oa y.o.length y.oc,.slice y.ta y.t.length y.tc],(newE p)])∧y.pl=newD p∧DAns W Dv.nil w' y∧Below W W w':=
 (new26_any p W).mono fun e w' ⟨y,h1,h2,h3,h4⟩=>⟨y,h1,h2,h3,h4⟩
end Go.Proofs.YtimhaidiclbnhaaGreat.Des
namespace Go.Proofs.YtimhaidiclbnhaaGreat.Ver
open Des (Dv De Dn DIn DBlk DAns Vi At RowOf ints)
open Ara (Ar ARow Cel)
open Con (StrRow)
structure Opr where
 kd:Int
 fd:Int
 fi:Int
 fl:Int
 off:Int
 len:Int
 pg:Int
 dat:ByteArray
 wr:Bool
def Opr.zero:Opr:=⟨0,0,0,0,0,0,0,⟨#[]⟩,false⟩
def Opr.cells (o:Opr):List Value:=[o.kd,o.fd,o.fi,o.fl,o.off,o.len,o.pg,.string o.dat,.bool o.wr]
def opVal (o:Opr):Value:=.agg #[o.kd,o.fd,o.fi,o.fl,o.off,o.len,o.pg,.string o.dat,.bool o.wr]
structure Ev where
 tm:Int
 pr:Int
 ix:Int
 fi:Int
 at':Int
 bg:Int
 er:Int
 n:Int
 dat:ByteArray
def Ev.cells (x:Ev):List Value:=[x.tm,x.pr,x.ix,x.fi,x.at',x.bg,x.er,x.n,.string x.dat]
def evVal (x:Ev):Value:=.agg #[x.tm,x.pr,x.ix,x.fi,x.at',x.bg,x.er,x.n,.string x.dat]
structure St where
 scr:List (List Opr)
 fs:List ByteArray
 fa:List Int
 la:List Int
 d:De
 ar:List (List Ar)
 h:List (List ByteArray×Int)
 st:List (List Int)
 fin:List Int
 bg:List Int
 tm:Int
structure Sl where
 a:Option Addr
 c:Nat
def Sl.nil:Sl:=⟨none,0⟩
structure Ly where
 M:Nat
 F:Nat
 A:Nat
 L:Nat
 R:Nat
 H:Nat
 S:Nat
 N:Nat
 B:Nat
 pl:Value
 sc:Value
 x:Dv
 ar:List Sl
 hs:List Sl
 st:List Sl
 ex:List Nat:=[]
def fx (b n:Nat):Value:=.slice (some (b 0)) n n
def mC (l:Ly) (s:St):List Value:=
 [σ,σ,I,I,I,I,I,I,I,I,σ,σ,I,I,l.pl,σ,σ,I,I,l.sc,σ,
  fx l.F s.fs.length,fx l.A s.fs.length,fx l.L s.fs.length,.slice l.x.oa l.x.o.length l.x.oc,.slice l.x.ta l.x.t.length l.x.tc,fx l.R s.scr.length,fx l.H s.fs.length,fx l.S s.fs.length,fx l.N s.scr.length,fx l.B s.scr.length,s.tm]
def slC {α:Type} (a:List Sl) (l:List (List α)):List Value:=(List.range l.length).map fun i=>.slice (a.getD i Sl.nil).a (l.getD i []).length (a.getD i Sl.nil).c
def hC (a:List Sl) (l:List (List ByteArray×Int)):List Value:=(List.range l.length).flatMap fun i=>[.slice (a.getD i Sl.nil).a (l.getD i ([],0)).1.length (a.getD i Sl.nil).c,.int .i64 (l.getD i ([],0)).2]
def stB (l:List Sl):List Nat:=l.filterMap fun s=>s.a.map Addr.block
def vs (l:Ly):List Nat:=[l.M,l.F,l.A,l.L,l.R,l.H,l.S,l.N,l.B]++stB l.st
def vx (l:Ly):List Nat:=vs l++l.ex
theorem vs_vx {l:Ly} {b:Nat} (h:b∈vs l):b∈vx l:=List.mem_append.2 (Or.inl h)
structure OpAt (W:World) (g o:Nat) (x:Opr):Prop where
 c:∀j v,x.cells[j]? =some v→W.cell? (g (o+j))=some v
def ORow (B:Nat) (W:World) (v:Value) (l:List Opr):Prop:=∃g o c,v=.slice (some ⟨g,o,none⟩) l.length c∧g<B∧l.length≤c∧c≤maxLen∧∀i,i<l.length→OpAt W g (o+i*9) (l.getD i Opr.zero)
def ScIn (B:Nat) (W:World) (v:Value) (l:List (List Opr)):Prop:=∃g o c,v=.slice (some ⟨g,o,none⟩) l.length c∧g<B∧l.length≤c∧c≤maxLen∧∀i,i<l.length→∃u,W.cell? ⟨g,o+i,none⟩=some u∧ORow B W u (l.getD i [])
structure Vk (V:List Nat) (w w':World):Prop where
 os:w'.os=w.os
 tape:w'.tape=w.tape
 output:w'.output=w.output
 size:w.heap.size≤w'.heap.size
 block:∀k,k∉V→k<w.heap.size→w'.heap[k]? =w.heap[k]?
theorem Vk.refl (V:List Nat) (w:World):Vk V w w:=⟨rfl,rfl,rfl,Nat.le_refl _,fun _ _ _=>rfl⟩
theorem Vk.ofBelow {V:List Nat} {w w':World} (h:Below w w w'):Vk V w w':=⟨h.os,h.tape,h.output,h.size,fun k _ hk=>h.block k hk⟩
theorem Vk.trans {V:List Nat} {w w1 w2:World} (h1:Vk V w w1) (h2:Vk V w1 w2):Vk V w w2:=
 ⟨h2.os.trans h1.os,h2.tape.trans h1.tape,h2.output.trans h1.output,Nat.le_trans h1.size h2.size,fun k hk hl=>(h2.block k hk (Nat.lt_of_lt_of_le hl h1.size)).trans (h1.block k hk hl)⟩
theorem Vk.below {V:List Nat} {w w':World} {B:Nat} (h:Vk V w w') (hB:B≤w.heap.size) (hV:∀b,b∈V→B≤b):Below B w w':=
 ⟨h.os,h.tape,h.output,h.size,fun k hk=>h.block k (fun hm=>by have:=hV k hm;omega) b10⟩
theorem Vk.set {V:List Nat} (w:World) (b o:Nat) (v:Value) (hb:b∈V):Vk V w (w.setCell (b o) v):=
 ⟨rfl,rfl,rfl,by simp [World.setCell],fun k hk _=>Below.heap_setCell w ⟨b,o,none⟩ v k (fun e=>hk (by rw [e];exact hb))⟩
theorem Vk.more {V V':List Nat} {w w':World} (h:Vk V w w') (hv:∀b,b∈V→b∈V'∨w.heap.size≤b):Vk V' w w':=
 ⟨h.os,h.tape,h.output,h.size,fun k hk hl=>h.block k (fun hm=>by rcases hv k hm with h1|h1<;>first|exact hk h1|omega) hl⟩
theorem At.keepB {W W':World} {b:Nat} {cs:List Value} (h:At W b cs) (hs:W.heap.size≤W'.heap.size) (hk:W'.heap[b]? =W.heap[b]?):At W' b cs:=
 ⟨fun j v hv=>(World.cell?_of_block (w:=W) (a:=⟨b,0+j,none⟩) hk).trans (h.r j v hv),
  fun j hj=>⟨by rw [World.cell?_of_block (w:=W) (a:=⟨b,0+j,none⟩) hk];exact (h.t j hj).1,by rw [World.frozen?_of_block (w:=W) (a:=⟨b,0+j,none⟩) hk];exact (h.t j hj).2⟩,Nat.lt_of_lt_of_le h.hi hs⟩
theorem arow_keep {W W':World} {B cap:Nat} {a:Option Addr} {l:List Ar} (h:ARow B a cap l W) (hs:W.heap.size≤W'.heap.size) (hk:∀q,a=some q→W'.heap[q.block]? =W.heap[q.block]?):ARow B a cap l W':=by
 rcases h with h|⟨g,h1,h2,h3,h4,h5,h6⟩
 ·exact Or.inl h
 ·have hkg:W'.heap[g]? =W.heap[g]?:=hk _ h1;exact Or.inr ⟨g,h1,h2,Nat.lt_of_lt_of_le h3 hs,h4,h5,fun j hj=>(h6 j hj).eq (fun i=>World.cell?_of_block (w:=W) (a:=⟨g,i,none⟩) hkg)⟩
theorem str_keep {W W':World} {B cap:Nat} {a:Option Addr} {l:List ByteArray} (h:StrRow B a cap l W) (hs:W.heap.size≤W'.heap.size) (hk:∀q,a=some q→W'.heap[q.block]? =W.heap[q.block]?):StrRow B a cap l W':=by
 rcases h with h|⟨g,h1,h2,h3,h4,h5,h6⟩
 ·exact Or.inl h
 ·have hkg:W'.heap[g]? =W.heap[g]?:=hk _ h1;exact Or.inr ⟨g,h1,h2,Nat.lt_of_lt_of_le h3 hs,h4,h5,fun j hj=>(World.cell?_of_block (w:=W) (a:=⟨g,j,none⟩) hkg).trans (h6 j hj)⟩
theorem own_keepB {W W':World} {B n size:Nat} {e:TypeId} {v:Value} {xs:List Value} (h:W.ownsRow B e size v n xs) (hk:∀q,v.ownBlock=some q→W'.heap[q]? =W.heap[q]?):W'.ownsRow B e size v n xs:=by
 refine ⟨h.1,?_⟩;rcases h.2 with hn|⟨g,cap,cur,rfl,hg,hgg,rest⟩
 ·exact Or.inl hn
 ·exact Or.inr ⟨g,cap,cur,rfl,hg,by rw [hk g rfl];exact hgg,rest⟩
theorem ORow.below {B:Nat} {W W':World} {v:Value} {l:List Opr} (h:ORow B W v l) (hb:Below B W W'):ORow B W' v l:=by
 obtain ⟨g,o,c,h1,h2,h3,h4,h5⟩:=h;exact ⟨g,o,c,h1,h2,h3,h4,fun i hi=>⟨fun j u hu=>(hb.cell (p:=(g (o+i*9+j))) h2).trans ((h5 i hi).c j u hu)⟩⟩
theorem ScIn.below {B:Nat} {W W':World} {v:Value} {l:List (List Opr)} (h:ScIn B W v l) (hb:Below B W W'):ScIn B W' v l:=by
 obtain ⟨g,o,c,h1,h2,h3,h4,h5⟩:=h;refine ⟨g,o,c,h1,h2,h3,h4,fun i hi=>?_⟩;obtain ⟨u,h6,h7⟩:=h5 i hi;exact ⟨u,(hb.cell (p:=(g (o+i))) h2).trans h6,h7.below hb⟩
structure Im (B:Nat) (W:World) (l:Ly) (s:St) (V:List Nat):Prop where
 di:Vi W V l.x
 dp:l.x.pl=s.d
 ra:∀i,i<s.ar.length→ARow 0 (l.ar.getD i Sl.nil).a (l.ar.getD i Sl.nil).c (s.ar.getD i []) W∧∀q,(l.ar.getD i Sl.nil).a=some q→q.block∉V
 rh:∀i,i<s.h.length→StrRow 0 (l.hs.getD i Sl.nil).a (l.hs.getD i Sl.nil).c (s.h.getD i ([],0)).1 W∧∀q,(l.hs.getD i Sl.nil).a=some q→q.block∉V
 sc:ScIn B W l.sc s.scr
structure Mg (mc:Ly→St→List Value) (B:Nat) (W:World) (l:Ly) (s:St):Prop where
 im:Im B W l s (vx l)
 m:At W l.M (mc l s)
 f:At W l.F (s.fs.map Value.string)
 a:At W l.A (ints s.fa)
 la:At W l.L (ints s.la)
 r:At W l.R (slC l.ar s.ar)
 h:At W l.H (hC l.hs s.h)
 S:At W l.S (slC l.st s.st)
 n:At W l.N (ints s.fin)
 b:At W l.B (ints s.bg)
 rs:∀i,i<s.st.length→W.ownsRow B 3 1 (.slice (l.st.getD i Sl.nil).a (s.st.getD i []).length (l.st.getD i Sl.nil).c) (s.st.getD i []).length (ints (s.st.getD i []))
 nd:(vs l).Nodup
 lo:∀b,b∈vs l→B≤b
 hB:B≤W.heap.size
 la':l.st.length=s.st.length
 lh':l.hs.length=s.h.length
 lr':l.ar.length=s.ar.length
 hx:∀b,b∈l.ex→b<W.heap.size∧B≤b
theorem Im.keep {B:Nat} {W W':World} {l:Ly} {s:St} {V:List Nat} (h:Im B W l s V) (hk:Vk V W W') (hl:∀b,b∈V→B≤b) (hB:B≤W.heap.size):Im B W' l s V:=
 ⟨⟨h.di.di.keepB hk.size fun b hb=>hk.block b (h.di.out b hb) (h.di.di.blk hb),h.di.out⟩,h.dp,
  fun i hi => ⟨arow_keep (h.ra i hi).1 hk.size fun q hq => hk.block _ ((h.ra i hi).2 q hq) (by
   rcases (h.ra i hi).1 with ⟨h1,_⟩|⟨g,h1,_,h3,_⟩
   ·rw [h1] at hq;cases hq
   ·rw [h1] at hq;cases hq;exact h3),(h.ra i hi).2⟩,
  fun i hi => ⟨str_keep (h.rh i hi).1 hk.size fun q hq => hk.block _ ((h.rh i hi).2 q hq) (by
   rcases (h.rh i hi).1 with ⟨h1,_⟩|⟨g,h1,_,h3,_⟩
   ·rw [h1] at hq;cases hq
   ·rw [h1] at hq;cases hq;exact h3),(h.rh i hi).2⟩,
  h.sc.below (hk.below hB hl)⟩
theorem Mg.lox {mc:Ly→St→List Value} {B:Nat} {W:World} {l:Ly} {s:St} (h:Mg mc B W l s):∀b,b∈vx l→B≤b:=fun b hb=>by
 rcases List.mem_append.1 hb with h1|h1
 ·exact h.lo b h1
 ·exact (h.hx b h1).2
theorem Mg.below {mc:Ly→St→List Value} {B:Nat} {W W':World} {l:Ly} {s:St} (h:Mg mc B W l s) (hb:Below W W W'):Mg mc B W' l s:=
 ⟨h.im.keep (Vk.ofBelow hb) h.lox h.hB,h.m.below hb h.m.hi,h.f.below hb h.f.hi,h.a.below hb h.a.hi,h.la.below hb h.la.hi,h.r.below hb h.r.hi,h.h.below hb h.h.hi,h.S.below hb h.S.hi,h.n.below hb h.n.hi,h.b.below hb h.b.hi,
  fun i hi=>Des.ownsRow_below (h.rs i hi) hb,h.nd,h.lo,Nat.le_trans h.hB hb.size,h.la',h.lh',h.lr',fun b hb2=>⟨Nat.lt_of_lt_of_le (h.hx b hb2).1 hb.size,(h.hx b hb2).2⟩⟩
abbrev Mm (B:Nat) (W:World) (l:Ly) (s:St):Prop:=Mg mC B W l s
end Go.Proofs.YtimhaidiclbnhaaGreat.Ver
namespace Go.Proofs.YtimhaidiclbnhaaGreat
section
variable {P:Program} {ops:Array Oper} {ι:Type} {F:ι→Act} {T:ι→Array Bool→World→Prop} {l:Array Bool} {a:Act} {i:Nat} {o:Oper}
theorem put_alike (a F:Act) (hs:a.tmps.size=F.tmps.size) (t:Nat) (v:Value):(a.put (some t) v).tmps.getD t undef=(F.put (some t) v).tmps.getD t undef:=by
 rcases Nat.lt_or_ge t a.tmps.size with h2|h2
 ·have h3:t<F.tmps.size:=b10;simp [Act.put,h2,h3]
 ·have h3:F.tmps.size≤t:=b10;simp [Act.put];rw [if_neg b10,if_neg b10]
theorem Near.puti {F F':Act} (hn:Near ops F l a) (hi:ops[i]? =some o) (v:Value) (hv:F.put o.dst v=F'):Near ops F' (l.setIfInBounds i true) (a.put o.dst v):=by
 subst hv;refine ⟨by rw [put_size,put_size];exact hn.size,by rw [put_defers',put_defers'];exact hn.defers,fun t ht=>?_⟩;by_cases hd:o.dst=some t
 ·rw [hd];exact put_alike a F hn.size t v
 ·rw [put_other _ _ hd,put_other _ _ hd];refine hn.same t (fun j p hj hdj=>?_);have h1:=ht j p hj hdj;have hne:i≠j:=fun e=>by
   subst e;rw [hi] at hj;cases hj;exact hd hdj
  rwa [getD_set_ne false hne] at h1
theorem wp_neari {K:Act→World→Prop} {Q:Exit→Act→World→Prop} {w:World} {β:ι} {T:ι→World→Prop} (he:execOp a.eval o=execOp (F β).eval o) (hde:∀β',(F β').defers=(F β).defers)
 (h:o.wp P (F β) w (fun a' w'=>∃β',a'=F β'∧T β' w') (fun _ _ _=>False)) (hd:(F β).defers.length=a.defers.length)
 (hK:∀v w' β',(F β).put o.dst v=F β'→T β' w'→K (a.put o.dst v) w'):o.wp P a w K Q:=by
 unfold Oper.wp at *;rw [he];generalize (execOp (F β).eval o).run P w=r at *;cases r with
 |ok n w'=>
  cases n<;>simp only [Oper.upon] at h ⊢
  case value v=>obtain ⟨β',h1,h2⟩:=h;exact hK _ _ _ h1 h2
  case skip=>obtain ⟨β',h1,h2⟩:=h;exact hK _ _ _ h1 h2
  case defer d=>
   obtain ⟨β',h1,h2⟩:=h;have:=congrArg (fun x:Act=>x.defers.length) h1;simp only [put_defers',hde β'] at this;simp at this
  case enter f args=>
   refine Calls.mono h (fun e w'' he=>?_);cases e with
   |returned v=>obtain ⟨β',h1,h2⟩:=he;exact hK _ _ _ h1 h2
   |panicked c=>exact he.elim
   |outgrown=>obtain ⟨_,_,hf⟩:=he;exact hf.elim
  case row row args=>exact Rows.mono h (fun v w'' he=>by obtain ⟨β',h1,h2⟩:=he;exact hK _ _ _ h1 h2)
  all_goals exact h
 |halt x w'=>cases x<;>simp only [Oper.upon] at h ⊢<;>exact h.elim
def StepOki (P:Program) (ops:Array Oper) (F:ι→Act) (T:ι→Array Bool→World→Prop) (i:Nat) (o:Oper):Prop:=
 o.guard=none∧∀β l w,Closed ops l→T β l w→l.getD i true=false→(∀e∈o.after,Region.binds .any e=true→l.getD e.on false=true)→
  o.wp P (F β) w (fun a' w'=>∃β',a'=F β'∧T β' (l.setIfInBounds i true) w') (fun _ _ _=>False)
def StepsOki (P:Program) (ops:Array Oper) (F:ι→Act) (T:ι→Array Bool→World→Prop):Nat→List Oper→Prop
 | _,[]=>True
 |i,o::os=>StepOki P ops F T i o∧StepsOki P ops F T (i+1) os
theorem StepsOki.at:∀{os:List Oper} {k i:Nat} {o:Oper},StepsOki P ops F T k os→os[i]? =some o→StepOki P ops F T (k+i) o
 |[],_,_,_,_,h=>by simp at h
 |x::os,k,0,o,hs,h=>by simp at h;subst h;exact hs.1
 |x::os,k,i+1,o,hs,h=>by
  have:=StepsOki.at hs.2 (i:=i) b35;rwa [show k+1+i=k+(i+1) from by omega] at this
theorem stepsi_nil {i:Nat}:StepsOki P ops F T i []:=True.intro
theorem stepsi_cons {i:Nat} {o:Oper} {os:List Oper} (h:StepOki P ops F T i o) (hs:StepsOki P ops F T (i+1) os):StepsOki P ops F T i (o::os):=⟨h,hs⟩
theorem any_calmi {Q:Exit→Act→World→Prop} (hc:calmOk ops=true) (hde:∀β β',(F β').defers=(F β).defers) (hs:StepsOki P ops F T 0 ops.toList)
 (fin:∀β l w,T β l w→(∀j,j<ops.size→l.getD j false=true)→Q .normal (F β) w):
 ∀(fuel:Nat) (β:ι) (l:Array Bool) (a:Act) (w:World),unlisted l≤fuel→l.size=ops.size→Closed ops l→Near ops (F β) l a→T β l w→wpAny P .any ops Q fuel l a w:=by
 have done:∀(β:ι) (l:Array Bool) (a:Act) (w:World),l.size=ops.size→Near ops (F β) l a→T β l w→Region.ready .any ops l=[]→Q .normal a w:=by
  intro β l a w hl hn hT hr;have hall:=all_up hc hl hr;have e:a=F β:=by
   have hF:=fin β l w hT hall;clear hF;generalize F β=G at hn;obtain ⟨t1,d1⟩:=a;obtain ⟨t2,d2⟩:=G;have h1:t1=t2:=by
    refine Array.ext hn.size (fun t h1 h2=>?_);have:=getElem_of_getD hn.size (hn.same t (fun j o hj _=>hall j (Array.getElem?_eq_some_iff.1 hj).1));simpa [h1,h2] using this
   have h2:d1=d2:=hn.defers;rw [h1,h2]
  rw [e];exact fin β l w hT hall
 intro fuel
 induction fuel with
 |zero=>
  intro β l a w hf hl hcl hn hT;have hr:Region.ready .any ops l=[]:=by
   cases h:Region.ready .any ops l with
   |nil=>rfl
   |cons i r=>
    have hi:i∈Region.ready .any ops l:=by rw [h];simp
    have:=unlisted_set (mem_ready.1 hi).1;omega
  exact ⟨hr,done β l a w hl hn hT hr⟩
 |succ fuel ih=>
  intro β l a w hf hl hcl hn hT;refine ⟨done β l a w hl hn hT,fun i hi=>?_⟩;obtain ⟨hun,o,ho,hafter⟩:=mem_ready.1 hi;have hst:=StepsOki.at hs (i:=i) (o:=o) (by simpa using ho);rw [Nat.zero_add] at hst;have s1:=hst.2 β l w hcl hT hun hafter;have hcl':Closed ops (l.setIfInBounds i true):=by
   intro j p hj hjl e he hb;by_cases hji:j=i
   ·subst hji;rw [ho] at hj;cases hj;exact getD_set_true (hafter e he hb)
   ·rw [getD_set_ne false (Ne.symm hji)] at hjl;exact getD_set_true (hcl j p hj hjl e he hb)
  unfold wpOp;simp only [ho];have hw:Region.wanted o (yielded ops a.tmps)=true:=by unfold Region.wanted;rw [hst.1]
  rw [hw, if_pos rfl]; exact Or.inl (wp_neari (hn.exec hc ho hafter) (hde β) s1 (by rw [hn.defers]) fun v w' β' hv hT'=>
   ih β' _ _ _ (by have:=unlisted_set hun;omega) (by simpa using hl) hcl' (hn.puti ho v hv) hT')
theorem region_calmi {os:List Oper} {Q:Exit→Act→World→Prop} {id:Nat} {A:Act} {W:World} (Facts:(ι→Act)→Prop) (T:ι→Array Bool→World→Prop) (vals:ι→List Value) (hm:P.follows .mixedOrders=true) (hc:calmOk os.toArray=true)
 (hf:Facts fun β=>putAll os (vals β) A) (β0:ι) (h0:T β0 (Array.replicate os.length false) W.drew) (hs:∀F,Facts F→StepsOki P os.toArray F T 0 os)
 (fin:∀β l w,T β l w→(∀j,j<os.length→l.getD j false=true)→Q .normal (putAll os (vals β) A) w):(Code.region id os.toArray true).wp P Q A W:=by
 have hs:StepsOki P os.toArray (fun β=>putAll os (vals β) A) T 0 os.toArray.toList:=by simpa using hs _ hf
 have h0:T β0 (Array.replicate os.toArray.size false) W.drew:=by simpa using h0
 have fin:∀β l w,T β l w→(∀j,j<os.toArray.size→l.getD j false=true)→Q .normal ((fun β=>putAll os (vals β) A) β) w:=fun β l w hT h=>fin β l w hT (fun j hj=>h j (by simpa using hj));have hde:∀β β',((fun β=>putAll os (vals β) A) β').defers=((fun β=>putAll os (vals β) A) β).defers:=fun β β'=>by
  show (putAll os (vals β') A).defers=(putAll os (vals β) A).defers;rw [(putAll_same os (vals β') A).2.1,(putAll_same os (vals β) A).2.1]
 have hnear:Near os.toArray ((fun β=>putAll os (vals β) A) β0) (Array.replicate os.toArray.size false) A:=by
  obtain ⟨h1,h2,h3⟩:=putAll_same os (vals β0) A;refine ⟨h1.symm,h2.symm,fun t ht=>(h3 t (fun o ho hd=>?_)).symm⟩;obtain ⟨j,hj,rfl⟩:=List.mem_iff_getElem.1 ho;have:=ht j _ b11 hd;simp [hj] at this
 clear hf;generalize (fun β=>putAll os (vals β) A)=F at *;refine wp_region_any hm (any_calmi hc hde hs fin _ β0 _ _ _ (by simp [unlisted,Array.toList_replicate]) b11 ?_ hnear h0);intro j o hj hl;have hlt:j<os.toArray.size:=(Array.getElem?_eq_some_iff.1 hj).1;simp at hlt;simp [hlt] at hl
end
theorem put_comm (A:Act) {d e:Option Tmp} (u v:Value) (h:d≠e):(A.put d u).put e v=(A.put e v).put d u:=by
 cases d with
 |none=>rfl
 |some d=>cases e with
  |none=>rfl
  |some e=>
   have hne:d≠e:=fun x=>h (by rw [x]);simp only [Act.put,Act.mk.injEq,and_true];exact Array.setIfInBounds_comm _ _ hne
theorem putAll_far:∀(os:List Oper) (vs:List Value) (A:Act) (d:Option Tmp) (v:Value),(os.all fun o=>o.dst !=d)=true→putAll os vs (A.put d v)=(putAll os vs A).put d v
 |[],_,_,_,_,_=>rfl
 |o::os,[],_,_,_,_=>rfl
 |o::os,u::vs,A,d,v,h=>by
  simp only [List.all_cons,Bool.and_eq_true,bne_iff_ne] at h;show putAll os vs ((A.put d v).put o.dst u)=(putAll os vs (A.put o.dst u)).put d v;rw [put_comm A v u (fun e=>h.1 e.symm)];exact putAll_far os vs _ d v h.2
theorem put_put (A:Act) (d:Option Tmp) (u v:Value):(A.put d u).put d v=A.put d v:=by
 cases d with
 |none=>rfl
 |some d=>simp [Act.put]
theorem putAll_put:∀(os:List Oper) (vs:List Value) (A:Act) (i:Nat) (d:Tmp) (v:Value),(os[i]?.bind (·.dst))=some d→((os.take i++os.drop (i+1)).all fun o=>o.dst !=some d)=true→i<vs.length→(putAll os vs A).put (some d) v=putAll os (vs.set i v) A
 |[],_,_,_,_,_,h,_,_=>by simp at h
 |o::os,[],_,_,_,_,_,_,h=>by simp at h
 |o::os,u::vs,A,0,d,v,h,h2,_=>by
  simp at h;simp only [List.take_zero,List.nil_append,Nat.zero_add,List.drop_succ_cons,List.drop_zero] at h2;show (putAll os vs (A.put o.dst u)).put (some d) v=putAll os vs (A.put o.dst v);rw [h,←putAll_far os vs _ (some d) v h2,put_put]
 |o::os,u::vs,A,i+1,d,v,h,h2,h3=>by
  simp only [List.take_succ_cons,List.drop_succ_cons,List.cons_append,List.all_cons,Bool.and_eq_true] at h2;exact putAll_put os vs (A.put o.dst u) i d v b35 h2.2 (by simpa using h3)
theorem putAll_at (os:List Oper) (vs:List Value) (A:Act) (i:Nat) (d:Tmp) (v:Value) (h:(os[i]?.bind (·.dst))=some d) (h2:((os.take i++os.drop (i+1)).all fun o=>o.dst !=some d)=true) (h3:vs[i]? =some v) (h4:d<A.tmps.size):(putAll os vs A).tmps[d]? =some v:=by
 have hi:=(List.getElem?_eq_some_iff.1 h3).1;have e:vs.set i v=vs:=by rw [←(List.getElem?_eq_some_iff.1 h3).2];exact List.set_getElem_self hi
 have h5:=putAll_put os vs A i d v h h2 hi;rw [e] at h5;rw [←h5];have h6:d<(putAll os vs A).tmps.size:=by rw [(putAll_same os vs A).1];exact h4
 simp [Act.put,h6]
theorem putAll_old (os:List Oper) (vs:List Value) (A:Act) (d:Tmp) (v:Value) (h:(os.all fun o=>o.dst !=some d)=true) (h3:A.tmps[d]? =some v):(putAll os vs A).tmps[d]? =some v:=by
 have h1:=(putAll_same os vs A).2.2 d (fun o ho=>by have:=List.all_eq_true.1 h o ho;simpa using this);have h2:=(putAll_same os vs A).1;obtain ⟨hlt,he⟩:=Array.getElem?_eq_some_iff.1 h3;rw [Array.getElem?_eq_some_iff];have hl:d<(putAll os vs A).tmps.size:=by rw [h2];exact hlt
 refine ⟨hl,?_⟩;simp [hl,hlt] at h1;rw [h1,he]
end Go.Proofs.YtimhaidiclbnhaaGreat
