import Derived.Test.YtimhaidiclbnhaaGreatP49
import Derived.Test.YtimhaidiclbnhaaGreatP50
set_option linter.unusedSimpArgs false
set_option linter.unusedVariables false
set_option maxRecDepth 100000
open Go.ChangeShapes Go.WideShapes Go.ChangeAt Go.RowKit
namespace Go.Proofs.YtimhaidiclbnhaaGreat.Ver
open Des (Dv De Dn DIn DBlk DAns Vi At RowOf ints DSz)
open Ara (Ar ARow)
open Con (StrRow)
theorem tape_at (w:World) (a:Option Addr) (len cap:Nat) (ha:ArgRow w a len) (hl:len≤maxLen):TP w w.heap.size a len cap (w.alloc (.cells #[.slice a len cap,I] 25)):=
 ⟨0,ha,Nat.le_refl _,by simp,Br.alloc Nr _,by simp,by simp,by simp,Nat.zero_le _,hl⟩
theorem arg_below {w w':World} {a:Option Addr} {len:Nat} (h:ArgRow w a len) (hb:Below w w w'):ArgRow w' a len:=by
 obtain ⟨b,o,zs,h1,h2⟩:=h;exact ⟨b,o,zs,h1,fun k hk=>⟨(h2 k hk).1,Nat.lt_of_lt_of_le (h2 k hk).2.1 hb.size,(hb.cell (p:=(b (o+k))) (h2 k hk).2.1).trans (h2 k hk).2.2⟩⟩
theorem pro_facts {W w1 w2 w3:World} {v:Value} {scr:List (List Opr)} {cf zs:List Value} {a1:Option Addr} {len1 cap1:Nat} (hb1:Below W W w1) (htk:Tock W.heap.size w1 w2) (hsc:ScIn w2.heap.size w2 v scr) (hl:cf.length=zs.length)
 (hw3:w3=(w2.alloc (.cells zs.toArray 44)).setCells w2.heap.size 0 cf) (h1:ArgRow W a1 len1) (l1:len1≤maxLen):
 ScIn w3.heap.size (w3.alloc (.cells #[.slice a1 len1 cap1,I] 25)) v scr∧At (w3.alloc (.cells #[.slice a1 len1 cap1,I] 25)) w2.heap.size cf∧w2.heap.size<w3.heap.size∧TP w3 w3.heap.size a1 len1 cap1 (w3.alloc (.cells #[.slice a1 len1 cap1,I] 25))∧Below W W (w3.alloc (.cells #[.slice a1 len1 cap1,I] 25)):=by
 have hb2:Below W W w2:=⟨htk.os.trans hb1.os,htk.tape.trans hb1.tape,htk.output.trans hb1.output,Nat.le_trans hb1.size htk.size,fun k hk=>(htk.block k b10 (by have:=hb1.size;omega)).trans (hb1.block k hk)⟩
 have hb3:Below w2 w2 w3:=by rw [hw3];exact below_setCells (Br.alloc Nr _) Nr _ 0
 have hs3:w3.heap.size=w2.heap.size+1:=by rw [hw3,Des.size_cells,Des.alloc_size]
 have hat:At w3 w2.heap.size cf:=by rw [hw3];exact (At.new w2 zs 44).store cf hl
 have hbw:Below W W w3:=hb2.trans (hb3.mono hb2.size);have hb4:Below w3 w3 (w3.alloc (.cells #[.slice a1 len1 cap1,I] 25)):=Br.alloc Nr _;exact ⟨((hsc.below hb3).more b10).below hb4,hat.below hb4 hat.hi,by omega,tape_at w3 a1 len1 cap1 (arg_below h1 hbw) l1,hbw.trans (hb4.mono hbw.size)⟩
structure PsL (W w3:World) (B K:Nat) (a1:Option Addr) (len1 cap1:Nat) (scr:List (List Opr)) (sa:Option Addr) (scp:Nat) (cf:List Value) (s0:St) (xs:List Ev) (lv:Value) (wr:World):Prop where
 own:wr.ownsRow B 64 9 lv xs.length (xs.flatMap Ev.cells)
 kn:∀x,x∈xs→knB s0 x=true
 xl:xs.length≤60
 sc:ScIn w3.heap.size wr (.slice sa scr.length scp) scr
 cf:At wr K cf
 tp:TP w3 w3.heap.size a1 len1 cap1 wr
 bw:Below W W wr
 hB:w3.heap.size<B
 hK:K<w3.heap.size
 hW:W.heap.size≤w3.heap.size
section
variable {W w3:World} {B K:Nat} {a1:Option Addr} {len1 cap1:Nat} {scr:List (List Opr)} {sa:Option Addr} {scp:Nat} {cf:List Value} {s0:St} {xs:List Ev} {lv:Value} {wr w':World}
theorem PsL.start {w4:World} (hsc:ScIn w3.heap.size w4 (.slice sa scr.length scp) scr) (hcf:At w4 K cf) (hK:K<w3.heap.size) (hbw:Below W W w4) (hW:W.heap.size≤w3.heap.size) (hs4:w3.heap.size<w4.heap.size)
 (hown:w'.ownsRow w4.heap.size 64 9 lv xs.length (xs.flatMap Ev.cells)) (hri:Right s0 xs) (hxl:xs.length≤60) (htp:TP w3 w3.heap.size a1 len1 cap1 w') (htk:Tock w3.heap.size w4 w'):
 PsL W w3 w4.heap.size K a1 len1 cap1 scr sa scp cf s0 xs lv w':=
 have hb:Below w3 w4 w':=⟨htk.os,htk.tape,htk.output,htk.size,fun j hj=>htk.block j b10 b10⟩
 ⟨hown,hri.kn,hxl,hsc.below hb,hcf.below hb hK,htp,hbw.trans (hb.mono hW),by omega,hK,hW⟩
theorem PsL.below (h:PsL W w3 B K a1 len1 cap1 scr sa scp cf s0 xs lv wr) (hb:Below wr wr w'):PsL W w3 B K a1 len1 cap1 scr sa scp cf s0 xs lv w':=
 {h with own:=Des.ownsRow_below h.own hb,sc:=h.sc.below (hb.mono (Nat.le_of_lt h.tp.hi)),cf:=h.cf.below hb h.cf.hi,tp:=h.tp.below hb h.tp.hi,bw:=h.bw.trans (hb.mono h.bw.size)}
theorem PsL.tick (h:PsL W w3 B K a1 len1 cap1 scr sa scp cf s0 xs lv wr) (ht:Tick w3.heap.size wr w') (hp:TP w3 w3.heap.size a1 len1 cap1 w'):PsL W w3 B K a1 len1 cap1 scr sa scp cf s0 xs lv w':=
 have hb:=ht.below Nr
 {h with own:=ht.own h.own h.hB,sc:=h.sc.below hb,cf:=h.cf.below hb h.hK,tp:=hp,bw:=h.bw.trans (hb.mono h.hW)}
theorem PsL.cin {lst:List ByteArray} {a:Option Addr} {c:Nat} {v:Value} {ys:List Ev} (h:PsL W w3 B K a1 len1 cap1 scr sa scp cf (begS scr 2 lst) xs lv wr) (hs:1≤scr.length∧scr.length≤8) (ho:OpsOK scr) (hbl:StrRow 0 a c lst wr) (hll:lst.length≤2) (hsz:∀s,s∈lst→s.size≤128) (hev:EvRow wr v ys) (hy:ys.length≤60) (hk:∀y,y∈ys→knB (begS scr 2 lst) y=true):CIn wr 2 scr sa scp a c lst v ys:=
 ⟨h.sc.more (Nat.le_of_lt h.tp.hi),by omega,hs,hbl,hll,hsz,ho,hev,by omega,hk⟩
end
theorem flat_set:∀(xs:List Ev) (i j:Nat) (y:Ev) (v:Value),i<xs.length→j<9→y.cells=(xs.getD i Ev.zero).cells.set j v→(xs.set i y).flatMap Ev.cells=(xs.flatMap Ev.cells).set (i*9+j) v
 |[],i,j,y,v,h,_,_=>absurd h (Nat.not_lt_zero _)
 |x::xs,0,j,y,v,_,hj,e=>by
  have e:y.cells=x.cells.set j v:=e;rw [List.set_cons_zero,List.flatMap_cons,List.flatMap_cons,e,Nat.zero_mul,Nat.zero_add,List.set_append_left _ _ (by show j<9;exact hj)]
 |x::xs,i+1,j,y,v,h,hj,e=>by
  have ih:=flat_set xs i j y v b35 hj e;rw [List.set_cons_succ,List.flatMap_cons,List.flatMap_cons,ih,List.set_append_right _ _ (by show 9≤_;omega),show (i+1)*9+j-x.cells.length=i*9+j from by show (i+1)*9+j-9=_;omega]
section
variable {w:World} {B g n c i:Nat} {xs:List Ev}
theorem ev_cell (h:w.ownsRow B 64 9 (.slice (some (g 0)) xs.length c) xs.length (xs.flatMap Ev.cells)) (hi:i<xs.length) (j:Nat) (u:Value) (hu:(xs.getD i Ev.zero).cells[j]? =some u):w.cell? (g (i*9+j))=some u∧w.frozen? (g (i*9+j))=false:=by
 have hj:j<9:=(List.getElem?_eq_some_iff.1 hu).1;have h1:=(own_cell h).2 (i*9+j) u (by rw [flatk_at Ev.cells 9 (fun _=>rfl) Ev.zero xs i j hi hj];exact hu);exact ⟨h1,(Des.own_there h i hi j hj).2⟩
theorem ev_set (h:w.ownsRow B 64 9 (.slice (some (g 0)) xs.length c) xs.length (xs.flatMap Ev.cells)) (hi:i<xs.length) (j:Nat) (v:Value) (y:Ev) (hj:j<9) (e:y.cells=(xs.getD i Ev.zero).cells.set j v):(w.setCell (g (i*9+j)) v).ownsRow B 64 9 (.slice (some (g 0)) xs.length c) (xs.set i y).length ((xs.set i y).flatMap Ev.cells):=by
 have h1:=Des.own_cells [v] (i*9+j) h;rw [List.length_set,flat_set xs i j y v hi hj e];exact h1
end
theorem PsL.set {W w3:World} {B K:Nat} {a1:Option Addr} {len1 cap1:Nat} {scr:List (List Opr)} {sa:Option Addr} {scp:Nat} {cf:List Value} {s0:St} {xs:List Ev} {g c i:Nat} {wr:World} (h:PsL W w3 B K a1 len1 cap1 scr sa scp cf s0 xs (.slice (some (g 0)) xs.length c) wr) (hi:i<xs.length) (j:Nat) (v:Value) (y:Ev) (hj:j<9) (e:y.cells=(xs.getD i Ev.zero).cells.set j v) (hk:knB s0 y=true):PsL W w3 B K a1 len1 cap1 scr sa scp cf s0 (xs.set i y) (.slice (some (g 0)) xs.length c) (wr.setCell (g (i*9+j)) v):=
 have hg:B≤g:=(h.own.lt g rfl).1;have h1:=h.hB;have h2:=h.hK;have h3:=h.hW;have hb:Below B wr (wr.setCell (g (i*9+j)) v):=Br.setCell (p:=(g (i*9+j))) hg v
 {own:=ev_set h.own hi j v y hj e
  kn:=fun x hx=>by
   rcases List.mem_or_eq_of_mem_set hx with hx|hx
   ·exact h.kn x hx
   ·rw [hx];exact hk
  xl:=by rw [List.length_set];exact h.xl
  sc:=h.sc.below (hb.mono b10)
  cf:=h.cf.below hb b10
  tp:=h.tp.below hb h1
  bw:=h.bw.trans (hb.mono b10)
  hB:=h1
  hK:=h2
  hW:=h3}
theorem ev_take {W:World} {B:Nat} {la:Option Addr} {lc:Nat} {xs:List Ev} (h:W.ownsRow B 64 9 (.slice la xs.length lc) xs.length (xs.flatMap Ev.cells)) (k:Nat) (hk:k≤xs.length):EvRow W (.slice la k lc) (xs.take k):=by
 have hl:(xs.take k).length=k:=by rw [List.length_take];omega
 rcases EvRow.ofOwn h with ⟨h1,h2⟩|⟨g,o,c,h1,h2,h3,h4,h5⟩
 ·subst h2;cases h1;left
  obtain rfl:k=0:=by simpa using hk
  exact ⟨rfl,List.take_nil⟩
 ·cases h1;refine Or.inr ⟨g,o,lc,by rw [hl],h2,by rw [hl];omega,h4,fun i hi j u hu=>?_⟩;rw [hl] at hi;have e:(xs.take k).getD i Ev.zero=xs.getD i Ev.zero:=by rw [List.getD_eq_getElem?_getD,List.getD_eq_getElem?_getD,List.getElem?_take_of_lt hi]
  rw [e] at hu;exact h5 i b10 j u hu
theorem his_cell {B K:Nat} {w:World} {l:Ly} {s:St} (h:Mm B w l s) (ok:Ok K s) (i:Nat) (hi:i<s.h.length):(w.cell? (l.H (i*2))=some (.slice (l.hs.getD i Sl.nil).a (s.h.getD i ([],0)).1.length (l.hs.getD i Sl.nil).c)∧w.cell? (l.H (i*2+1))=some ((s.h.getD i ([],0)).2:U))∧StrRow 0 (l.hs.getD i Sl.nil).a (l.hs.getD i Sl.nil).c (s.h.getD i ([],0)).1 w∧(s.h.getD i ([],0)).1.length≤K+1:=by
 obtain ⟨h1,h2⟩:=hC_at l.hs s.h i hi;exact ⟨⟨h.h.cell (i*2) _ h1,h.h.cell (i*2+1) _ h2⟩,(h.im.rh i hi).1,ok.hl i hi⟩
theorem str_cell {w:World} {B c:Nat} {a:Option Addr} {l:List ByteArray} (h:StrRow B a c l w) (j:Nat) (hj:j<l.length):∃g,a=some ⟨g,0,none⟩∧((l.length:Int)≤(c:Int)∧(c:Int)≤9223372036854775807)∧w.cell? ⟨g,j,none⟩=some (.string (l.getD j ⟨#[]⟩)):=by
 rcases h with ⟨h1,h2,h3⟩|⟨g,h1,_,h3,h4,h5,h6⟩
 ·rw [h2] at hj;exact absurd hj (Nat.not_lt_zero _)
 ·unfold maxLen at h5;exact ⟨g,h1,by omega,h6 j hj⟩
theorem getD_pre {α:Type} (d:α) (A us:List α) (j:Nat) (h:j<A.length):A.getD j d=(A++us).getD j d:=by
 rw [List.getD_eq_getElem?_getD,List.getD_eq_getElem?_getD,List.getElem?_append_left h]
theorem str_below {w w':World} {B c:Nat} {a:Option Addr} {l:List ByteArray} (h:StrRow B a c l w) (hb:Below w w w'):StrRow B a c l w':=h.below hb
theorem own_shape {w:World} {B size n c:Nat} {e:TypeId} {a:Option Addr} {xs:List Value} (h:w.ownsRow B e size (.slice a n c) n xs):(a=none∧n=0∧c=0)∨((∃g,a=some ⟨g,0,none⟩)∧(n:Int)≤(c:Int)∧(c:Int)≤9223372036854775807):=by
 rcases h.2 with ⟨h1,h2⟩|⟨g,cap,cur,h1,h2,h3,h4,h5,_⟩
 ·cases h1;exact Or.inl ⟨rfl,rfl,rfl⟩
 ·cases h1;unfold maxLen at h5;exact Or.inr ⟨⟨g,rfl⟩,by omega,by omega⟩
def FRow (W:World) (a:Option Addr) (c:Nat) (l:List (Int×Int)):Prop:=
 l=[]∨∃g,a=some ⟨g,0,none⟩∧g<W.heap.size∧l.length≤c∧c≤maxLen∧∀i,i<l.length→W.cell? ⟨g,i*2,none⟩=some ((l.getD i (0,0)).1:U)∧W.cell? ⟨g,i*2+1,none⟩=some ((l.getD i (0,0)).2:U)
theorem FRow.below {W W':World} {a:Option Addr} {c:Nat} {l:List (Int×Int)} (h:FRow W a c l) (hb:Below W W W'):FRow W' a c l:=by
 rcases h with h|⟨g,h1,h2,h3,h4,h5⟩
 ·exact Or.inl h
 ·exact Or.inr ⟨g,h1,Nat.lt_of_lt_of_le h2 hb.size,h3,h4,fun i hi=>⟨(hb.cell (p:=(g (i*2))) h2).trans (h5 i hi).1,(hb.cell (p:=(g (i*2+1))) h2).trans (h5 i hi).2⟩⟩
theorem fnd_get:∀(l:List (Int×Int)) (i:Nat),i<l.length→(fnd l)[i*2]? =some ((l.getD i (0,0)).1:U)∧(fnd l)[i*2+1]? =some ((l.getD i (0,0)).2:U)
 |[],i,h=>absurd h (Nat.not_lt_zero _)
 |x::l,0,_=>⟨rfl,rfl⟩
 |x::l,i+1,h=>by
  have:=fnd_get l i b35;rw [show (i+1)*2=i*2+2 from by omega,show i*2+2+1=(i*2+1)+2 from by omega];exact this
theorem FRow.ofOwn {W:World} {B:Nat} {a:Option Addr} {c:Nat} {l l2:List (Int×Int)} (h:W.ownsRow B 70 2 (.slice a l.length c) l.length (fnd l)) (k:Nat) (hk:k≤l.length) (e:l2=l.take k):FRow W a c l2:=by
 subst e;rcases h.2 with ⟨_,h2⟩|⟨g,cap,cur,h1,h2,h3,h4,h5,h6,h7⟩
 ·left
  rw [List.length_eq_zero_iff.1 h2];exact List.take_nil
 ·have hlt:g<W.heap.size:=by
   rcases Nat.lt_or_ge g W.heap.size with h8|h8
   ·exact h8
   ·rw [Array.getElem?_eq_none h8] at h3;cases h3
  cases h1;refine Or.inr ⟨g,rfl,hlt,by rw [List.length_take];omega,h5,fun i hi=>?_⟩;rw [List.length_take] at hi;have e1:(l.take k).getD i (0,0)=l.getD i (0,0):=by
   rw [List.getD_eq_getElem?_getD,List.getD_eq_getElem?_getD,List.getElem?_take_of_lt b10]
  obtain ⟨f1,f2⟩:=fnd_get l i b10;rw [e1];rw [←h7,List.getElem?_take_of_lt b10] at f1 f2;rw [cell_of_row W g _ cur 70 (0,0) h3,cell_of_row W g _ cur 70 (0,0) h3];exact ⟨by simpa using f1,by simpa using f2⟩
set_option maxHeartbeats 4000000 in
theorem same_any (l:List (Int×Int)) (a1 a2:Option Addr) (c1 c2:Nat) (W:World) (h1:FRow W a1 c1 l) (h2:FRow W a2 c2 l) (hl:l.length≤1000):
 Calls Tryz.prog 16 #[.slice a1 l.length c1,.slice a2 l.length c2] W (RetW (.bool true) W):=by
 have HA:=Hd h1;have HB:=Hd h2;have hlI:(l.length:Int)≤1000:=b10;clear h1 h2;go_enter Tryz.func16,Tryz.ntmps16;go_wp2_with fail;go_loopw [5] (fun i wr=>∃k:Nat,k≤l.length∧i=.int .i64 k∧Hid (Below W W wr)) (fun i _=>l.length-(intOf i).toNat)
 case atStart=>exact ⟨0,Nat.zero_le _,rfl,Below.refl _ _⟩
 case round=>
  obtain ⟨k,hk,rfl,HW⟩:=hrel;by_cases hlt:k<l.length
  ·have hltI:(k:Int)<(l.length:Int):=b10;have HA':=HA.out.below HW.out;have HB':=HB.out.below HW.out;rcases HA' with e|⟨g,rfl,p1,p2,p3,p4⟩
   ·rw [e] at hlt;exact absurd hlt (Nat.not_lt_zero _)
   rcases HB' with e|⟨g',rfl,q1,q2,q3,q4⟩
   ·rw [e] at hlt;exact absurd hlt (Nat.not_lt_zero _)
   obtain ⟨x0,x1⟩:=p4 k hlt;obtain ⟨y0,y1⟩:=q4 k hlt;have p2I:(l.length:Int)≤c1:=b10;have q2I:(l.length:Int)≤c2:=b10;clear p4 q4 p2 q2;generalize (l.getD k (0,0)).1=u at *;generalize (l.getD k (0,0)).2=v at *;go_wp2_with fail;go_quiet (fail)
   trace_state
   go_wp2_with fail;go_roundw
   case rel=>exact ⟨k+1,by omega,by go_num,HW.out.trans (below_drewN Br _)⟩
   case measure=>simp [intOf];omega
  ·obtain rfl:k=l.length:=b10;go_wp2_with fail;go_ret;exact ⟨rfl,HW.out⟩
def Hs (s t:St):Prop:=∃h',t={s with h:=h'}∧h'.length=s.h.length∧∀f,(h'.getD f ([],0)).1=(s.h.getD f ([],0)).1
theorem Hs.refl (s:St):Hs s s:=⟨s.h,rfl,rfl,fun _=>rfl⟩
theorem hs_set {s:St} {h':List (List ByteArray×Int)} (hl:h'.length=s.h.length) (hg:∀f,(h'.getD f ([],0)).1=(s.h.getD f ([],0)).1) (f:Nat) (u v:List ByteArray×Int) (e:u.1=v.1):(h'.set f u).length=(s.h.set f v).length∧∀g,((h'.set f u).getD g ([],0)).1=((s.h.set f v).getD g ([],0)).1:=by
 refine ⟨by rw [List.length_set,List.length_set];exact hl,fun g=>?_⟩;rw [getD_set0,getD_set0,hl];split
 ·exact e
 ·exact hg g
theorem hs_ch {s:St} {h':List (List ByteArray×Int)} (hl:h'.length=s.h.length) (hg:∀f,(h'.getD f ([],0)).1=(s.h.getD f ([],0)).1) (f:Nat) (d:ByteArray):Hs (chS s f d) (chS {s with h:=h'} f d):=by
 obtain ⟨h1,h2⟩:=hs_set hl hg f ((h'.getD f ([],0)).1++[d],(h'.getD f ([],0)).2) ((s.h.getD f ([],0)).1++[d],(s.h.getD f ([],0)).2) (by show _++[d]=_++[d];rw [hg f]);exact ⟨_,rfl,h1,h2⟩
theorem hs_sy {s:St} {h':List (List ByteArray×Int)} (hl:h'.length=s.h.length) (hg:∀f,(h'.getD f ([],0)).1=(s.h.getD f ([],0)).1) (f:Nat) (x:Ev):Hs (syS s f x) (syS {s with h:=h'} f x):=by
 unfold syS;dsimp only;split
 ·obtain ⟨h1,h2⟩:=hs_set hl hg f ((h'.getD f ([],0)).1,Con.syncV (h'.getD f ([],0)).1.length (h'.getD f ([],0)).2 ((s.st.getD f []).getD x.bg.toNat 0-1)) ((s.h.getD f ([],0)).1,Con.syncV (s.h.getD f ([],0)).1.length (s.h.getD f ([],0)).2 ((s.st.getD f []).getD x.bg.toNat 0-1)) (hg f);exact ⟨_,rfl,h1,h2⟩
 ·exact ⟨h',rfl,hl,hg⟩
namespace Aerq
theorem km12 {p : Prop} (h:p:=by
 split;exact ⟨rfl,h0⟩;split;exact ⟨rfl,h0⟩;split;exact ⟨rfl,h0⟩
 refine ⟨rfl,?_⟩;generalize Des.updD s.d _ _ _=d2;exact hs_ch (s:={s with d:=d2}) hl hg _ _):p:=h
end Aerq
open Aerq in
theorem plan_hs (s:St) (h':List (List ByteArray×Int)) (hl:h'.length=s.h.length) (hg:∀f,(h'.getD f ([],0)).1=(s.h.getD f ([],0)).1) (p:Nat) (o:Opr) (x:Ev):(planR {s with h:=h'} p o x).1=(planR s p o x).1∧Hs (planR s p o x).2 (planR {s with h:=h'} p o x).2:=by
 have hs:∀d a,Hs {s with d:=d,ar:=a} {s with h:=h',d:=d,ar:=a}:=fun d a=>⟨h',rfl,hl,hg⟩
 have h0:Hs s {s with h:=h'}:=hs s.d s.ar;have e:∀m,lkE {s with h:=h'} (p:Int) o.fd m=lkE s (p:Int) o.fd m:=fun _=>rfl;have e1:adB {s with h:=h'} p o=adB s p o:=rfl;have e2:adA {s with h:=h'} p o=adA s p o:=rfl;have e3:adN {s with h:=h'} p o=adN s p o:=rfl;unfold planR;split
 ·unfold openedR;dsimp only;split;exact ⟨rfl,h0⟩;split;exact ⟨rfl,hs _ s.ar⟩;exact ⟨rfl,h0⟩
 ·unfold closedR;dsimp only;split;exact ⟨rfl,hs _ s.ar⟩;exact ⟨rfl,h0⟩
 ·unfold readR;rw [e];dsimp only;split;exact ⟨rfl,h0⟩;split;exact ⟨rfl,h0⟩;exact ⟨rfl,hs _ s.ar⟩
 ·unfold writeR;rw [e];dsimp only;exact cm12
 ·unfold seekR;rw [e];dsimp only;split;exact ⟨rfl,h0⟩;split;exact ⟨rfl,h0⟩;exact ⟨rfl,hs _ s.ar⟩
 ·unfold truncateR;rw [e];dsimp only;split;exact ⟨rfl,h0⟩;split;exact ⟨rfl,h0⟩;exact ⟨rfl,hs_ch hl hg _ _⟩
 ·unfold punchR;rw [e];dsimp only;split;exact ⟨rfl,h0⟩;split;exact ⟨rfl,h0⟩;exact ⟨rfl,hs_ch hl hg _ _⟩
 ·unfold syncR;rw [e];dsimp only;generalize (if (Des.lookV s.d p o.fd).cu<s.fa.getD (Des.lookV s.d p o.fd).fi.toNat 0 then s.la.getD (Des.lookV s.d p o.fd).fi.toNat 0 else 0)=q;split;exact ⟨rfl,h0⟩
  refine ⟨rfl,?_⟩;generalize Des.updD s.d _ _ _=d2;exact hs_sy (s:={s with d:=d2}) hl hg _ x
 ·unfold mappedR;rw [e];dsimp only;split;exact ⟨rfl,h0⟩;split;exact ⟨rfl,h0⟩;split;exact ⟨rfl,h0⟩;split;exact ⟨rfl,h0⟩;split;exact ⟨rfl,h0⟩;exact ⟨rfl,hs s.d _⟩
 ·unfold unmapR;dsimp only;split;exact ⟨rfl,h0⟩;exact ⟨rfl,hs s.d _⟩
 ·unfold loadR;rw [e1,e2,e3];dsimp only;split;exact ⟨rfl,h0⟩;split;exact ⟨rfl,h0⟩;exact ⟨rfl,h0⟩
 ·unfold storeR;rw [e1,e2,e3];dsimp only;split;exact ⟨rfl,h0⟩;split;exact ⟨rfl,h0⟩;split;exact ⟨rfl,h0⟩;split;exact ⟨rfl,h0⟩;exact ⟨rfl,hs_ch hl hg _ _⟩
 ·unfold dupR;dsimp only;split;exact ⟨rfl,hs _ s.ar⟩;exact ⟨rfl,h0⟩
 ·exact ⟨rfl,h0⟩
theorem take_hs {s t:St} (h:Hs s t) (i:Int) (x:Ev):(takeS t i x).1=(takeS s i x).1∧Hs (takeS s i x).2 (takeS t i x).2:=by
 obtain ⟨h',rfl,hl,hg⟩:=h;have e0:∀k,stAt {s with h:=h'} k=stAt s k:=fun k=>by
  unfold stAt;refine List.map_congr_left fun i _=>?_
  dsimp only;rw [hg i]
 have e1:stS {s with h:=h'}={stS s with h:=h'}:=by
  unfold stS stK;rw [e0]
 have e2:ordS {stS s with h:=h'} x={ordS (stS s) x with h:=h'}:=by
  unfold ordS;split<;>rfl
 have hl2:h'.length=(ordS (stS s) x).h.length:=by rw [ord_h];exact hl
 have hg2:∀f,(h'.getD f ([],0)).1=((ordS (stS s) x).h.getD f ([],0)).1:=fun f=>by rw [ord_h];exact hg f
 have e3:ordB {stS s with h:=h'} i x=ordB (stS s) i x:=rfl;unfold takeS;rw [e1,e2,e3];split
 ·exact ⟨rfl,h',rfl,hl2,hg2⟩
 ·obtain ⟨p1,p2⟩:=plan_hs (ordS (stS s) x) h' hl2 hg2 x.pr.toNat (opAt s x.pr.toNat x.ix.toNat) x;have e4:opAt {s with h:=h'} x.pr.toNat x.ix.toNat=opAt s x.pr.toNat x.ix.toNat:=rfl;rw [e4];refine ⟨?_,?_⟩
  ·show (if _ then judgeV _ _ _ else (4:Int))=(if _ then judgeV _ _ _ else (4:Int))
   rw [p1]
  ·show Hs (if _ then _ else _) (if _ then _ else _);split
   ·exact p2
   ·exact ⟨h',rfl,hl2,hg2⟩
theorem run_set_lo (s:St) (xs:List Ev) (i:Nat) (y:Ev) (k:Nat) (hk:k≤i):runS s (xs.set i y) k=runS s xs k:=by
 induction k with
 |zero=>rfl
 |succ k ih=>
  have e:(xs.set i y).getD k Ev.zero=xs.getD k Ev.zero:=by rw [getD_set0,if_neg b10]
  unfold runS;rw [ih b10,e]
theorem catch_run {s0:St} {xs:List Ev} {i:Nat} {y:Ev} {w:Int} (h:Right s0 xs) (hi:i<xs.length) (hw:w≠0) (h1:(takeS (runS s0 xs i).1 (i:Int) y).1=w) (h2:Hs (takeS (runS s0 xs i).1 (i:Int) (xs.getD i Ev.zero)).2 (takeS (runS s0 xs i).1 (i:Int) y).2):
 (runS s0 (xs.set i y) xs.length).2=[((i:Int),w)]:=by
 have hm:∀m,i+1+m≤xs.length→Hs (runS s0 xs (i+1+m)).1 (runS s0 (xs.set i y) (i+1+m)).1∧(runS s0 (xs.set i y) (i+1+m)).2=[((i:Int),w)]:=by
  intro m
  induction m with
  |zero=>
   intro _;have e:(xs.set i y).getD i Ev.zero=y:=by rw [getD_set0,if_pos ⟨rfl,hi⟩]
   rw [Nat.add_zero,run_fst,run_fst,run_snd,run_set_lo s0 xs i y i Nr,e,h1,if_neg hw,right_run h i b10];exact ⟨h2,rfl⟩
  |succ m ih=>
   intro hle;obtain ⟨a1,a2⟩:=ih b10;have e:(xs.set i y).getD (i+1+m) Ev.zero=xs.getD (i+1+m) Ev.zero:=by rw [getD_set0,if_neg b10]
   obtain ⟨b1,b2⟩:=take_hs a1 ((i+1+m:Nat):Int) (xs.getD (i+1+m) Ev.zero);rw [show i+1+(m+1)=(i+1+m)+1 from by omega,run_fst,run_fst,run_snd,e,a2,b1,right_take h (i+1+m) b10,if_pos rfl,List.append_nil];exact ⟨b2,rfl⟩
 have:=(hm (xs.length-(i+1)) b10).2;rwa [show i+1+(xs.length-(i+1))=xs.length from by omega] at this
theorem judge_data {k n:Int} {a b:ByteArray} (hk:k≠8) (hd:b≠a):judgeV k ⟨0,n,a⟩ ⟨0,n,b⟩=1:=by
 have h1:mk1 k ⟨0,n,a⟩ ⟨0,n,b⟩=⟨0,n,a⟩:=by
  unfold mk1;rw [if_neg (by simp [outerB])]
 have h2:mk2 k ⟨0,n,a⟩ ⟨0,n,b⟩=⟨0,n,a⟩:=by
  unfold mk2;rw [if_neg (fun e=>hk e.1)]
 unfold judgeV;rw [h1,h2];unfold cmpV;rw [if_neg (fun e=>hd e.2.2),if_neg (fun e=>hk e.1),if_pos ⟨rfl,rfl⟩]
theorem judge_hides {n:Int} {a:ByteArray}:judgeV 8 ⟨10,n,a⟩ ⟨0,n,a⟩=3:=by
 have h1:mk1 8 ⟨10,n,a⟩ ⟨0,n,a⟩=⟨10,n,a⟩:=by
  unfold mk1;rw [if_neg (by simp [outerB])]
 have h2:mk2 8 ⟨10,n,a⟩ ⟨0,n,a⟩=⟨10,n,a⟩:=by
  unfold mk2;rw [if_neg (fun e=>by have h3:(10:Int)=0:=e.2.1;omega)]
 unfold judgeV;rw [h1,h2];unfold cmpV;rw [if_neg (fun e=>by have h3:(0:Int)=10:=e.1;omega),if_pos ⟨rfl,fun e=>by have h3:(0:Int)=10:=e;omega⟩]
theorem plan_dat {s:St} {p:Nat} {o:Opr} {x:Ev} (hk:o.kd=3∨o.kd=11) (hd:0<(planR s p o x).1.dat.size):(planR s p o x).1.er=0:=by
 rcases hk with hk|hk
 ·have e:planR s p o x=readR s p o:=by unfold planR;rw [hk];rfl
  rw [e] at hd ⊢;unfold readR at *;exact cl91
 ·have e:planR s p o x=loadR s p o:=by unfold planR;rw [hk];rfl
  rw [e] at hd ⊢;unfold loadR at *;exact cl91
theorem plan_ev {s:St} {p:Nat} {o:Opr} (x y:Ev) (hk:o.kd≠8):planR s p o x=planR s p o y:=by
 unfold planR;split<;>first|rfl|(exfalso;omega)
section
variable {s0:St} {xs:List Ev} {i:Nat}
theorem take_op (h:Right s0 xs) (hi:i<xs.length) {y:Ev} (hp:(xs.getD i Ev.zero).pr≠-1) (h1:y.pr=(xs.getD i Ev.zero).pr) (h2:y.ix=(xs.getD i Ev.zero).ix) (h3:y.bg=(xs.getD i Ev.zero).bg) (h4:y.tm=(xs.getD i Ev.zero).tm):
 takeS (runS s0 xs i).1 (i : Int) y = (judgeV (opAt s0 (xs.getD i Ev.zero).pr.toNat (xs.getD i Ev.zero).ix.toNat).kd (evRes (xs.getD i Ev.zero)) (evRes y),
  if (opAt s0 (xs.getD i Ev.zero).pr.toNat (xs.getD i Ev.zero).ix.toNat).kd=8∨y.er=0 then (planR (ordS (stS (runS s0 xs i).1) (xs.getD i Ev.zero)) (xs.getD i Ev.zero).pr.toNat (opAt s0 (xs.getD i Ev.zero).pr.toNat (xs.getD i Ev.zero).ix.toNat) y).2 else ordS (stS (runS s0 xs i).1) (xs.getD i Ev.zero)):=by
 have ho:=h.ord i hi;have hr:=h.res i hi hp;have e:∀p j,opAt (runS s0 xs i).1 p j=opAt s0 p j:=fun p j=>by unfold opAt;rw [(run_keep s0 xs i).1]
 generalize xs.getD i Ev.zero=x at *;have e1:ordS (stS (runS s0 xs i).1) y=ordS (stS (runS s0 xs i).1) x:=by unfold ordS;rw [h1,h3,h4]
 have e2:ordB (stS (runS s0 xs i).1) (i:Int) y=true:=by rw [←ho];unfold ordB;rw [h1,h2,h3,h4]
 unfold takeS;rw [h1,h2,e1,e2,e,if_neg hp,if_pos rfl,ord_res _ x hp _ _ y Ev.zero,←hr]
theorem catch_read (h:Right s0 xs) (hi:i<xs.length) (hp:(xs.getD i Ev.zero).pr≠-1) (hk:(opAt s0 (xs.getD i Ev.zero).pr.toNat (xs.getD i Ev.zero).ix.toNat).kd=3∨(opAt s0 (xs.getD i Ev.zero).pr.toNat (xs.getD i Ev.zero).ix.toNat).kd=11) (hd:0<(xs.getD i Ev.zero).dat.size) (d:ByteArray) (hne:d≠(xs.getD i Ev.zero).dat):
 (runS s0 (xs.set i {xs.getD i Ev.zero with dat:=d}) xs.length).2=[((i:Int),1)]:=by
 have hr:=h.res i hi hp;have e0:(xs.getD i Ev.zero).er=0:=by
  have h2:0<(evRes (xs.getD i Ev.zero)).dat.size:=hd;rw [hr] at h2;have:=plan_dat hk h2;rw [←hr] at this;exact this
 have t1:=take_op h hi (y:={xs.getD i Ev.zero with dat:=d}) hp rfl rfl rfl rfl;have t2:=take_op h hi (y:=xs.getD i Ev.zero) hp rfl rfl rfl rfl;have hk8:(opAt s0 (xs.getD i Ev.zero).pr.toNat (xs.getD i Ev.zero).ix.toNat).kd≠8:=b10;refine catch_run h hi b14 ?_ ?_
 ·rw [t1];show judgeV _ ⟨(xs.getD i Ev.zero).er,(xs.getD i Ev.zero).n,(xs.getD i Ev.zero).dat⟩ ⟨(xs.getD i Ev.zero).er,(xs.getD i Ev.zero).n,d⟩=1;rw [e0];exact judge_data hk8 hne
 ·rw [t1,t2];dsimp only;rw [plan_ev {xs.getD i Ev.zero with dat:=d} (xs.getD i Ev.zero) hk8];exact Hs.refl _
theorem catch_sync (h:Right s0 xs) (hi:i<xs.length) (hp:(xs.getD i Ev.zero).pr≠-1) (hk:(opAt s0 (xs.getD i Ev.zero).pr.toNat (xs.getD i Ev.zero).ix.toNat).kd=8) (he:(xs.getD i Ev.zero).er=10):
 (runS s0 (xs.set i {xs.getD i Ev.zero with er:=0}) xs.length).2=[((i:Int),3)]:=by
 have t1:=take_op h hi (y:={xs.getD i Ev.zero with er:=0}) hp rfl rfl rfl rfl;have t2:=take_op h hi (y:=xs.getD i Ev.zero) hp rfl rfl rfl rfl;refine catch_run h hi b14 ?_ ?_
 ·rw [t1];show judgeV _ ⟨(xs.getD i Ev.zero).er,(xs.getD i Ev.zero).n,(xs.getD i Ev.zero).dat⟩ ⟨0,(xs.getD i Ev.zero).n,(xs.getD i Ev.zero).dat⟩=3;rw [he,hk];exact judge_hides
 ·rw [t1,t2];dsimp only;rw [if_pos (Or.inl hk),if_pos (Or.inl hk)];generalize ordS (stS (runS s0 xs i).1) (xs.getD i Ev.zero)=S;generalize (xs.getD i Ev.zero).pr.toNat=p at *;generalize opAt s0 p (xs.getD i Ev.zero).ix.toNat=o at *;generalize xs.getD i Ev.zero=x at *;unfold planR;rw [hk];show Hs (syncR S p o x).2 (syncR S p o {x with er:=0}).2;unfold syncR;split
  ·exact Hs.refl _
  ·dsimp only;generalize ({S with d:=_}:St)=S2;generalize (Des.lookV S.d p o.fd).fi.toNat=f;have e1:syS S2 f x=S2:=by
    unfold syS;rw [if_neg (fun e=>by have h3:=e.1;omega)]
   rw [e1];unfold syS;split
   ·obtain ⟨a1,a2⟩:=hs_set (s:=S2) (h':=S2.h) rfl (fun _=>rfl) f ((S2.h.getD f ([],0)).1,Con.syncV (S2.h.getD f ([],0)).1.length (S2.h.getD f ([],0)).2 ((S2.st.getD f []).getD x.bg.toNat 0-1)) (S2.h.getD f ([],0)) rfl;refine ⟨_,rfl,by rw [a1,List.length_set],fun g=>?_⟩;rw [a2 g,getD_set0];split
    ·rename_i e;rw [e.1]
    ·rfl
   ·exact Hs.refl _
end
open Des (At)
theorem kn_parts {scr:List (List Opr)} {lst:List ByteArray} {x:Ev} (h:knB (begS scr 2 lst) x=true):x.pr=-1∨(0≤x.pr∧x.pr<(scr.length:Int)∧0≤x.ix∧x.ix<((scr.getD x.pr.toNat []).length:Int)):=by
 unfold knB at h;by_cases hp:x.pr=-1
 ·exact Or.inl hp
 ·rw [if_neg hp] at h;exact Or.inr (of_decide_eq_true h)
theorem conv_row (w:World) (d:ByteArray):(convert 9 68 (.string d)).run Tryz.prog w=.ok (.slice (some (w 0 0)) d.size (grownCap w d.size 0 5)) (w.drew.alloc (.cells (bytesRow d (grownCap w d.size 0 5)) 5 ((bytesRow d (grownCap w d.size 0 5)).size,(bytesRow d (grownCap w d.size 0 5)).size+1))):=
 run_bytes_of_string (P:=Tryz.prog) w 9 68 5 d Tryz.underlying9 Tryz.underlying68 Tryz.underlying5
theorem conv_cells (w:World) (d:ByteArray) (C:Nat) (m:Nat×Nat) (hm:d.size≤m.1):Below w w (w.drew.alloc (.cells (bytesRow d C) 5 m))∧∀j,j<d.size→(w.drew.alloc (.cells (bytesRow d C) 5 m)).cell? (w 0 j)=some (.int .u8 ((d.data.toList.getD j 0).toNat:Int))∧(w.drew.alloc (.cells (bytesRow d C) 5 m)).frozen? (w 0 j)=false:=by
 refine ⟨(Br.drew).alloc Nr _,fun j hj=>?_⟩;have hb:(w.drew.alloc (.cells (bytesRow d C) 5 m)).heap[w.heap.size]? =some (.cells (bytesRow d C) 5 m):=Go.heap_alloc_new w.drew _;have hs:d.data.size=d.size:=rfl;refine ⟨?_,?_⟩
 ·rw [cell_of_row _ _ j _ 5 m hb];unfold bytesRow;rw [Array.getElem?_append_left (by simpa using hj)];simp [List.getD,hs,hj]
 ·obtain ⟨m1,m2⟩:=m;have hm:d.size≤m1:=hm;simp only [World.frozen?,hb];rw [decide_eq_false (by omega:¬m1≤j),Bool.false_and]
theorem conv_cells2 (w:World) (d:ByteArray) (C:Nat) (m:Nat×Nat) (hm:d.size≤m.1):Below w w (w.alloc (.cells (bytesRow d C) 5 m)).drew∧∀j,j<d.size→(w.alloc (.cells (bytesRow d C) 5 m)).drew.cell? (w 0 j)=some (.int .u8 ((d.data.toList.getD j 0).toNat:Int))∧(w.alloc (.cells (bytesRow d C) 5 m)).drew.frozen? (w 0 j)=false:=conv_cells w d C m hm
theorem bump_bytes {w:World} {g cap:Nat} {d:ByteArray} (hd:0<d.size) (hc:∀j,j<d.size→w.cell? (g j)=some (.int .u8 ((d.data.toList.getD j 0).toNat:Int))) {z:Int} (hz:z=(((d.data.toList.getD 0 0).toNat:Int)+1)%256):
 ∃e:ByteArray,e≠d∧e.size=d.size∧(convert 68 9 (.slice (some (g 0)) d.size cap)).run Tryz.prog (w.setCell (g 0) (.int .u8 z))=.ok (.string e) (w.setCell (g 0) (.int .u8 z)):=by
 have hl:d.data.toList.length=d.size:=Array.length_toList;have hb:=(d.data.toList.getD 0 0).toNat_lt;have hu:((UInt8.ofNat z.toNat).toNat:Int)=z:=by
  rw [UInt8.toNat_ofNat'];omega
 refine ⟨⟨(d.data.toList.set 0 (UInt8.ofNat z.toNat)).toArray⟩,fun e=>?_,?_,?_⟩
 ·have e1:(d.data.toList.set 0 (UInt8.ofNat z.toNat))=d.data.toList:=by
   have:=congrArg (fun x:ByteArray=>x.data.toList) e;simpa using this
  have e2:(d.data.toList.set 0 (UInt8.ofNat z.toNat)).getD 0 0=UInt8.ofNat z.toNat:=by rw [getD_set0,if_pos ⟨rfl,by omega⟩]
  rw [e1] at e2;rw [←e2] at hu;omega
 ·show (d.data.toList.set 0 (UInt8.ofNat z.toNat)).toArray.size=d.size;rw [List.size_toArray,List.length_set,hl]
 ·refine conv_bytes _ g d.size cap _ (by rw [List.length_set,hl]) fun j hj=>?_
  rw [List.length_set,hl] at hj;have e3:(d.data.toList.set 0 (UInt8.ofNat z.toNat))[j]'(by rw [List.length_set,hl];exact hj)=(d.data.toList.set 0 (UInt8.ofNat z.toNat)).getD j 0:=by
   rw [List.getD_eq_getElem?_getD,List.getElem?_eq_getElem (by rw [List.length_set,hl];exact hj)];rfl
  rw [e3,getD_set0];by_cases h0:j=0
  ·subst h0;rw [if_pos ⟨rfl,by omega⟩,hu];exact World.cell?_setCell_same _ _ _ (hc 0 hd)
  ·rw [if_neg (fun h=>h0 h.1),World.cell?_setCell_other _ _ _ _ (by intro h;exact h0 (by cases h;rfl))];exact hc j hj
theorem find9:(Tryz.prog.info? 9).map (fun i=>(i.zero,i.size,i.bytes))=some (some (.string ⟨#[]⟩),1,16):=by kernel_rfl
theorem str_one {w:World} {B g:Nat} {s:ByteArray} (h:At w g [.string s]) (hB:B≤g):StrRow B (some ⟨g,0,none⟩) 1 [s] w:=
 Or.inr ⟨g,rfl,hB,h.hi,Nat.le_refl _,by unfold maxLen;omega,fun j hj=>by
  obtain rfl:j=0:=by simp at hj;exact hj
  exact h.cell 0 _ rfl⟩
theorem str_own {w:World} {B c:Nat} {a:Option Addr} {l:List ByteArray} (h:w.ownsRow B 9 1 (.slice a l.length c) l.length (l.map Value.string)):StrRow B a c l w:=by
 rcases h.2 with ⟨h1,h2⟩|⟨g,cap,cur,h1,h2,h3,h4,h5,h6,h7⟩
 ·obtain rfl:=List.length_eq_zero_iff.1 h2;cases h1;exact Or.inl ⟨rfl,rfl,rfl⟩
 ·cases h1;obtain ⟨⟨k1,k2,k3,k4⟩,k5⟩:=own_cell h;refine Or.inr ⟨g,rfl,k2,k1,k3,k4,fun j hj=>k5 j _ ?_⟩;rw [List.getElem?_map,List.getElem?_eq_getElem hj,List.getD_eq_getElem?_getD,List.getElem?_eq_getElem hj];rfl
theorem str_cell2 {w:World} {B c:Nat} {a:Option Addr} {l:List ByteArray} (h:StrRow B a c l w) (j:Nat) (hj:j<l.length):∃g,a=some ⟨g,0,none⟩∧g<w.heap.size∧((l.length:Int)≤(c:Int)∧(c:Int)≤9223372036854775807)∧w.cell? ⟨g,j,none⟩=some (.string (l.getD j ⟨#[]⟩)):=by
 rcases h with ⟨h1,h2,h3⟩|⟨g,h1,_,h3,h4,h5,h6⟩
 ·rw [h2] at hj;exact absurd hj (Nat.not_lt_zero _)
 ·unfold maxLen at h5;exact ⟨g,h1,h3,by omega,h6 j hj⟩
def lastK (s:St) (k:Nat):List ByteArray:=(List.range k).map fun f=>(s.h.getD f ([],0)).1.getD ((s.h.getD f ([],0)).1.length-1) ⟨#[]⟩
theorem lastK_len (s:St) (k:Nat):(lastK s k).length=k:=by simp [lastK]
theorem lastK_succ (s:St) (k:Nat):lastK s (k+1)=lastK s k++[(s.h.getD k ([],0)).1.getD ((s.h.getD k ([],0)).1.length-1) ⟨#[]⟩]:=by
 unfold lastK;rw [List.range_succ,List.map_append];rfl
theorem lastK_get (s:St) (n k:Nat) (hk:k<n):(lastK s n).getD k ⟨#[]⟩=(s.h.getD k ([],0)).1.getD ((s.h.getD k ([],0)).1.length-1) ⟨#[]⟩:=by
 unfold lastK;rw [List.getD_eq_getElem?_getD,List.getElem?_map,List.getElem?_range hk];rfl
theorem lastK_size {s:St} (h:HZ s) (n:Nat):∀x,x∈lastK s n→x.size≤10000:=by
 intro x hx;unfold lastK at hx;obtain ⟨f,_,rfl⟩:=List.mem_map.1 hx;generalize hL:(s.h.getD f ([],0)).1=L;have h1:=h f;rw [hL] at h1;by_cases hl:L.length-1<L.length
 ·rw [List.getD_eq_getElem?_getD,List.getElem?_eq_getElem hl];exact Nat.le_trans (h1 _ (List.getElem_mem hl)) b10
 ·rw [List.getD_eq_getElem?_getD,List.getElem?_eq_none b10];exact Nat.zero_le _
end Go.Proofs.YtimhaidiclbnhaaGreat.Ver
