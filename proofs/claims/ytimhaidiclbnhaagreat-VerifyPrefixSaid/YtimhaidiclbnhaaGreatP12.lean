import Derived.Test.YtimhaidiclbnhaaGreatP11
set_option linter.unusedSimpArgs false
set_option linter.unusedVariables false
set_option maxRecDepth 100000
open Go.ChangeShapes Go.WideShapes Go.ChangeAt Go.RowKit
namespace Go.Proofs.YtimhaidiclbnhaaGreat.Des
def setE (t:List (List Int)) (p f:Nat) (z:Int):List (List Int):=t.set p ((t.getD p []).set f z)
def bump (a:Dn) (z:Int):Dn:=⟨a.fi,a.fl,a.f,a.cu,z⟩
def bumpL (o:List Dn) (n:Nat) (k:Int):List Dn:=o.set n (bump (o.getD n Dn.zero) ((o.getD n Dn.zero).rf+k))
def openE (d:De) (p fi fl c:Int):Int:=if procV d p≠0 then procV d p else if (fixB fi fl&&curB c)=false then 2 else if fst zeroB (tabAt d p)<0 then 3 else 0
def openF (d:De) (p fi fl c:Int):Int:=if openE d p fi fl c=0 then fst zeroB (tabAt d p) else 0
def slotN (o:List Dn):Nat:=if fst noneB o<0 then o.length else (fst noneB o).toNat
def putD (o:List Dn) (x:Dn):List Dn:=if fst noneB o<0 then o++[x] else o.set (fst noneB o).toNat x
def openD (d:De) (p fi fl c:Int):De:=if openE d p fi fl c=0 then ⟨putD d.o ⟨fi,fl,0,c,1⟩,setE d.t p.toNat (fst zeroB (tabAt d p)).toNat ((slotN d.o:Int)+1)⟩ else d
def dupE (d:De) (p f:Int):Int:=if numE d p f≠0 then numE d p f else if fst zeroB (tabAt d p)<0 then 3 else 0
def dupF (d:De) (p f:Int):Int:=if dupE d p f=0 then fst zeroB (tabAt d p) else 0
def dupD (d:De) (p f:Int):De:=if dupE d p f=0 then ⟨bumpL d.o (numV d p f).toNat 1,setE d.t p.toNat (fst zeroB (tabAt d p)).toNat (numV d p f+1)⟩ else d
def trimR:List Dn→List Dn
 |[]=>[]
 |a::r=>if a.rf=0 then trimR r else a::r
def trim (o:List Dn):List Dn:=(trimR o.reverse).reverse
def closeG (d:De) (p f:Int):Bool:=decide (numE d p f=0)&&decide ((d.o.getD (numV d p f).toNat Dn.zero).rf-1≤0)
def closeD (d:De) (p f:Int):De:=
 if numE d p f=0 then
  ⟨if (d.o.getD (numV d p f).toNat Dn.zero).rf-1≤0 then trim (d.o.set (numV d p f).toNat Dn.zero) else bumpL d.o (numV d p f).toNat (-1),setE d.t p.toNat f.toNat 0⟩
 else d
def updE (d:De) (n f c:Int):Int:=if checkV d=false then 1 else if n<0∨(d.o.length:Int)≤n∨(d.o.getD n.toNat Dn.zero).rf=0 then 4 else if movB f c=false then 2 else 0
def updD (d:De) (n f c:Int):De:=if updE d n f c=0 then ⟨d.o.set n.toNat ⟨(d.o.getD n.toNat Dn.zero).fi,(d.o.getD n.toNat Dn.zero).fl,f,c,(d.o.getD n.toNat Dn.zero).rf⟩,d.t⟩ else d
theorem Wk.neT {B O:Nat} {W:World} {y:Dv} (h:Wk B W O y) (i:Nat) (hi:i<y.t.length) {g2:Nat} (hg:(y.t.getD i Tb.nil).a=some ⟨g2,0,none⟩):O≠g2:=by
 have he:=h.own.e _ (List.getElem_mem hi);rw [getD_get hi] at hg;exact fun e=>own_ne2 he (e':=83) h.box.ty b14 g2 (by unfold Tb.val;rw [hg];rfl) e.symm
theorem Wk.neO {B O:Nat} {W:World} {y:Dv} (h:Wk B W O y) {g:Nat} (hg:y.oa=some ⟨g,0,none⟩):O≠g:=
 fun e=>own_ne2 h.own.o (e':=83) h.box.ty b14 g (by rw [hg];rfl) e.symm
theorem tset_pl (t:List Tb) (i j:Nat) (z:Int):(tset t i j z).map Tb.l=setE (t.map Tb.l) i j z:=tset_l t i j z
theorem there5 {W:World} {g o:Nat} {a:Dn} (h:DCel W g o a) (hf:∀j,W.frozen? (g j)=false):W.there g o 5:=by
 intro j hj;refine ⟨?_,hf _⟩;have h5:j=0∨j=1∨j=2∨j=3∨j=4:=b10;rcases h5 with rfl|rfl|rfl|rfl|rfl
 ·rw [Nat.add_zero,h.c0];rfl
 ·rw [h.c1];rfl
 ·rw [h.c2];rfl
 ·rw [h.c3];rfl
 ·rw [h.c4];rfl
theorem bumpL_len (o:List Dn) (n:Nat) (k:Int):(bumpL o n k).length=o.length:=by simp [bumpL]
theorem getD_set_self {α:Type} {l:List α} {i:Nat} {x d:α} (h:i<l.length):(l.set i x).getD i d=x:=by rw [getD_get b35,List.getElem_set_self]
theorem getD_set_ne {α:Type} {l:List α} {i j:Nat} {x d:α} (hne:i≠j):(l.set i x).getD j d=l.getD j d:=by
 simp [List.getD,List.getElem?_set_ne hne]
end Go.Proofs.YtimhaidiclbnhaaGreat.Des
namespace Go.Proofs.YtimhaidiclbnhaaGreat.Con
theorem StrRow.one_new (w:World) (d:ByteArray) (fz:Nat×Nat):StrRow 0 (some ⟨w.heap.size,0,none⟩) 1 [d] (w.alloc (.cells #[.string d] 9 fz)):=by
 refine Or.inr ⟨w.heap.size,rfl,Nat.zero_le _,by simp,by simp,by unfold maxLen;omega,fun j hj=>?_⟩;have:j=0:=by simpa using hj
 subst this;rw [World.cell?_alloc_mark];rfl
theorem own_mono {w:World} {B C:Nat} {e:TypeId} {size n:Nat} {v:Value} {xs:List Value} (h:w.ownsRow B e size v n xs) (hb:C≤B):w.ownsRow C e size v n xs:=by
 refine ⟨h.1,?_⟩;rcases h.2 with hn|⟨g,cap,cur,e1,e2,e3⟩
 ·exact Or.inl hn
 ·exact Or.inr ⟨g,cap,cur,e1,Nat.le_trans hb e2,e3⟩
namespace Afzq
theorem km17 {p : Prop} (h:p:=by
 replace H0:=Hd (H0.out.below Br.drew H0.out.lt);go_region_held3 (fun w'=>w'.cell? (w 0 0)=some (.slice a l.length cap)∧w'.cell? (w 0 1)=some (q:U)) (go_keep) (first|(go_at_call 64;refine (HC.out _ b123).mono ?_;rintro e w1 ⟨v1,rfl,ho,hb1,H1⟩;have klt:w.heap.size<w1.heap.size:=Nat.lt_of_lt_of_le b10 H1.lt;have k0:=H1.p0;have k1:=H1.p1)|(rw [if_pos (by rfl)];refine wp_app (Operand.tmp 7) (Operand.tmp 9) rfl (w.heap.size+2) v1 l rfl ?_ 0 _ [s] 1 rfl ?_ b10 b11 ?_ ?_;(first|exact ho|exact ho.alloc _);(first|exact StrRow.one_new _ _ _ |exact (StrRow.one_new _ _ _).below hb1|exact ((StrRow.one_new _ _ _).below Br.drew).below hb1);(first|exact H1.lt|exact Nat.le_trans H1.lt b11);intro a2 cap2 w2 ho2 hr2 hb2;have H2:Hst w w2 (.slice a l.length cap) q:=b124;have k0':=H2.p0;have k1':=H2.p1;obtain ⟨u0,r0⟩:=H2.r0;obtain ⟨u1,r1⟩:=H2.r1;have f0:=H2.f0;have f1:=H2.f1))
 all_goals
  have HD:=H2.done (.slice a2 (l.length+1) cap2) q hr2;generalize (w2.setCell (w 1 0) (Value.slice a2 (l.length+1) cap2)).setCell (w 1 1) q=W3 at *;obtain ⟨d0,d1,d2,d3⟩:=HD;go_wp2_with fail;refine bodyPost_ret (v:=.agg #[.slice a2 (l.length+1) cap2,q]) (by simp [results,Tryz.results37,go_sem,d0,d1]) rfl ⟨_,_,rfl,d3,d2⟩):p:=h
end Afzq
open Afzq in
set_option maxHeartbeats 4000000 in
theorem change_any (B:Nat) (a:Option Addr) (l:List ByteArray) (cap:Nat) (q:Int) (s:ByteArray) (w:World) (h:StrRow B a cap l w) (hl:l.length≤10000):
 Calls Tryz.prog 37 #[.agg #[.slice a l.length cap,q],.string s] w fun e w'=>∃a' cap',e=.returned (.agg #[.slice a' (l.length+1) cap',q])∧StrRow w.heap.size a' cap' (l++[s]) w'∧Below w w w':=by
 have HC:Hid (∀W,Hst w W (.slice a l.length cap) q→Calls Tryz.prog 64 #[.slice a l.length cap] W fun e w'=>∃v',e=.returned v'∧w'.ownsRow (w.heap.size+2) 9 1 v' l.length (l.map Value.string)∧Below W W w'∧Hst w w' (.slice a l.length cap) q):=by
  intro W hW;refine (clone_any B a l cap W (h.below hW.bel) b10).mono ?_;rintro e w' ⟨v',rfl,ho,hb⟩;exact ⟨v',rfl,own_mono ho hW.lt,hb,hW.below hb hW.lt⟩
 clear h;go_enter Tryz.func37,Tryz.ntmps37;exact cm17
theorem rep_zero (c:Nat):Lib.repeatL [0] c=List.replicate c (0:UInt8):=by
 induction c with
 |zero=>rfl
 |succ n ih=>simp [Lib.repeatL,ih,List.replicate_succ]
theorem repeat_any (n:Int) (w:World) (h0:0≤n) (h1:n≤1000000):
 Calls Tryz.prog 141 #[.string ⟨#[0]⟩,n] w (RetW (.string (zeros n.toNat)) w):=by
 obtain ⟨c,rfl⟩:=Int.eq_ofNat_of_zero_le h0;refine (Tryz.strings_Repeat ⟨#[0]⟩ c w b10 (by show 1*c≤_;omega)).mono ?_;rintro e w' ⟨rfl,hb⟩;refine ⟨?_,hb⟩;show Ending.returned (.string ⟨(Lib.repeatL [0] c).toArray⟩)=_;rw [rep_zero];rfl
def longB (s:ByteArray):Bool:=decide (128<s.size)
def badB (n:Int):Bool:=decide (n<0∨128<n)
theorem long_any (s:ByteArray) (w:World) (hs:s.size≤maxLen):Calls Tryz.prog 124 #[.string s] w fun e w'=>e=.returned (.bool (longB s))∧w=w':=by
 unfold maxLen at hs;go_enter Tryz.func124,Tryz.ntmps124;go_wp2_with fail;go_ret;have e:decide (128<(s.size:Int))=longB s:=by
  unfold longB;congr 1
  apply propext;omega
 exact ⟨by show Ending.returned (.bool (decide (128<(s.size:Int))))=_;rw [e],rfl⟩
theorem bad_any (n:Int) (w:World):Calls Tryz.prog 125 #[n] w fun e w'=>e=.returned (.bool (badB n))∧w=w':=by
 go_enter Tryz.func125,Tryz.ntmps125;go_wp2_with fail
 all_goals
  go_ret;refine ⟨?_,rfl⟩;simp [badB];try omega
def sizedS (s:ByteArray) (n:Nat):ByteArray:=if n≤s.size then s.extract 0 n else s++zeros (n-s.size)
set_option maxHeartbeats 1000000 in
theorem sized_any (s:ByteArray) (n:Nat) (w:World) (hs:s.size≤1000000) (hn:n≤1000000):Calls Tryz.prog 129 #[.string s,n] w (RetW (.string (sizedS s n)) w):=by
 by_cases h:n≤s.size
 ·have HR:Hid (sizedS s n=s.extract 0 n):=by unfold Hid sizedS;rw [if_pos h]
  have h2:(n:Int)≤(s.size:Int):=b10;go_enter Tryz.func129,Tryz.ntmps129;go_wp2_with fail;go_ret;exact RetW.mk b51 Br
 ·have HR:Hid (sizedS s n=s++zeros (n-s.size)):=by unfold Hid sizedS;rw [if_neg h]
  have h2:(s.size:Int)<(n:Int):=b10;have hrep:=fun w=>repeat_any ((n:Int)-(s.size:Int)) w b10 b10;have he:((n:Int)-(s.size:Int)).toNat=n-s.size:=b10;rw [he] at hrep;have hz:=size_zeros (n-s.size);generalize zeros (n-s.size)=z at *;have hl:s.size+z.size≤9223372036854775807:=b10;have HP:=Hd hrep;clear hrep he hz;go_enter Tryz.func129,Tryz.ntmps129;go_wp2_with (go_at_call 141;refine (HP.out _).mono ?_;rintro e w' ⟨rfl,hb⟩)
  go_ret;exact RetW.mk b51 hb
theorem sizedS_size (s:ByteArray) (n:Nat):(sizedS s n).size=n:=by
 unfold sizedS;split
 ·simp;omega
 ·rw [ByteArray.size_append,size_zeros];omega
def putS (s:ByteArray) (off:Nat) (b:ByteArray):ByteArray:=
 (sizedS s (max s.size (off+b.size))).extract 0 off++b++(sizedS s (max s.size (off+b.size))).extract (off+b.size) (max s.size (off+b.size))
set_option maxHeartbeats 1000000 in
theorem put_any (s:ByteArray) (off:Nat) (b:ByteArray) (w:World) (hs:s.size≤100000) (ho:off≤100000) (hb:b.size≤100000):
 Calls Tryz.prog 126 #[.string s,off,.string b] w (RetW (.string (putS s off b)) w):=by
 have HR:Hid (putS s off b=(sizedS s (max s.size (off+b.size))).extract 0 off++b++(sizedS s (max s.size (off+b.size))).extract (off+b.size) (sizedS s (max s.size (off+b.size))).size):=by
  unfold Hid putS;rw [sizedS_size]
 have hsz:=sizedS_size s (max s.size (off+b.size));have hcall:=fun w=>sized_any s (max s.size (off+b.size)) w b10 b10;have hm:((max s.size (off+b.size):Nat):Int)=max (s.size:Int) ((off:Int)+b.size):=b10;rw [hm] at hcall;generalize sizedS s (max s.size (off+b.size))=t at *;generalize putS s off b=r at *;have h1:(off:Int)≤(t.size:Int):=b10;have h2:(off:Int)+(b.size:Int)≤(t.size:Int):=b10;have h4:IntKind.i64.wrap ((off:Int)+(b.size:Int))=(off:Int)+(b.size:Int):=IntWalk.i64_in _ b10;have h5:((off:Int)+(b.size:Int)).toNat=off+b.size:=b10;have h6:¬9223372036854775807<off+b.size:=b10;have h7:¬9223372036854775807<off+b.size+(t.size-(off+b.size)):=b10;have h8:0≤(off:Int)+(b.size:Int):=b10;have h9:off≤t.size:=b10;have h10:off+b.size≤t.size:=b10;have HC:=Hd hcall;clear hcall hm hsz;go_enter Tryz.func126,Tryz.ntmps126;go_wp2_with (go_at_call 129;refine (HC.out _).mono ?_;rintro e w' ⟨rfl,hb'⟩)
 go_quiet (fail);go_wp2_with fail;go_ret;exact RetW.mk b51 (below_drewN hb' _)
def readV (s:ByteArray) (off n:Int):ByteArray×Int:=
 if longB s=true then (⟨#[]⟩,1) else if badB off=true∨n<0 then (⟨#[]⟩,2)
 else (s.extract (min off.toNat s.size) (min off.toNat s.size+min n.toNat (s.size-min off.toNat s.size)),0)
theorem badB_iff {n:Int}:badB n=true↔(n<0∨128<n):=by simp [badB]
theorem longB_iff {s:ByteArray}:longB s=true↔128<s.size:=by simp [longB]
set_option maxHeartbeats 2000000 in
theorem read_any (s:ByteArray) (off n:Int) (w:World) (hs:s.size≤maxLen):
 Calls Tryz.prog 92 #[.string s,off,n] w fun e w'=>e=.returned (.tuple #[.string (readV s off n).1,(readV s off n).2])∧w=w':=by
 have HL:=Hd (fun w=>long_any s w hs);have HB:=Hd (bad_any off);cases hl:longB s with
 |true=>
  rw [hl] at HL;have HR:Hid (readV s off n=(⟨#[]⟩,1)):=by unfold Hid readV;rw [if_pos hl]
  clear hl;go_enter Tryz.func92,Tryz.ntmps92;go_wp2_with (go_at_call 124;refine (HL.out _).mono ?_;rintro e w' ⟨rfl,rfl⟩)
  go_ret2;rw [HR.out];exact ⟨rfl,rfl⟩
 |false=>
  rw [hl] at HL;have hl':¬longB s=true:=by rw [hl];simp
  have hsz:s.size≤128:=by rw [longB_iff] at hl';omega
  cases hb:badB off with
  |true=>
   rw [hb] at HB;have HR:Hid (readV s off n=(⟨#[]⟩,2)):=by unfold Hid readV;rw [if_neg hl',if_pos (Or.inl hb)]
   clear hl hl' hb;exact cl42
  |false=>
   rw [hb] at HB;have hb':¬badB off=true:=by rw [hb];simp
   have hof:¬(off<0∨128<off):=by rw [←badB_iff];exact hb'
   by_cases hn:n<0
   ·have HR:Hid (readV s off n=(⟨#[]⟩,2)):=by unfold Hid readV;rw [if_neg hl',if_pos (Or.inr hn)]
    clear hl hl' hb hb' hof;exact cl42
   ·obtain ⟨o,rfl⟩:=Int.eq_ofNat_of_zero_le (show 0≤off by omega);obtain ⟨m,rfl⟩:=Int.eq_ofNat_of_zero_le (show 0≤n by omega);have e1:((o:Int)).toNat=o:=b10;have e2:((m:Int)).toNat=m:=b10;have HR:Hid (readV s (o:Int) (m:Int)=(s.extract (min o s.size) (min o s.size+min m (s.size-min o s.size)),0)):=by
     unfold Hid readV;rw [if_neg hl',if_neg (fun h=>h.elim hb' hn),e1,e2]
    have q1:min (o:Int) (s.size:Int)=((min o s.size:Nat):Int):=b10;have q2:min (m:Int) ((s.size:Int)-((min o s.size:Nat):Int))=((min m (s.size-min o s.size):Nat):Int):=b10;have q3:min o s.size≤s.size:=b10;have q4:min o s.size+min m (s.size-min o s.size)≤s.size:=b10;have hnn:(0:Int)≤(m:Int):=b10;generalize min o s.size=q at *;generalize min m (s.size-q)=r at *;clear hl hl' hb hb' hof hn e1 e2;have q5:(q:Int)≤(s.size:Int):=b10;have q6:(q:Int)+(r:Int)≤(s.size:Int):=b10;exact cl42
theorem extract_end (s:ByteArray) (k:Nat):s.extract s.size (s.size+k)=⟨#[]⟩:=by
 apply ByteArray.ext;rw [ByteArray.data_extract];apply Array.eq_empty_of_size_eq_zero;rw [Array.size_extract];have:s.data.size=s.size:=rfl;omega
set_option maxHeartbeats 2000000 in
theorem readR_any (s:ByteArray) (off n:Int) (w:World) (hs:s.size≤maxLen):
 Calls Tryz.prog 57 #[.string s,off,n] w fun e w'=>e=.returned (.tuple #[.string (readV s off n).1,(readV s off n).2])∧w=w':=by
 by_cases hl:longB s=true
 ·have HR:Hid (readV s off n=(⟨#[]⟩,1)):=by unfold Hid readV;rw [if_pos hl]
  have h1:(128:Int)<(s.size:Int):=by rw [longB_iff] at hl;omega
  clear hl;exact cl88
 ·have h1:(s.size:Int)≤128:=by rw [longB_iff] at hl;omega
  by_cases hb:badB off=true∨n<0
  ·have HR:Hid (readV s off n=(⟨#[]⟩,2)):=by unfold Hid readV;rw [if_neg hl,if_pos hb]
   have HB:Hid ((off<0∨128<off)∨n<0):=by rw [badB_iff] at hb;exact hb
   clear hl hb;go_enter Tryz.func57,Tryz.ntmps57;go_wp2_with fail
   all_goals
    first
    |(exfalso;have:=HB.out;omega)
    | (go_ret2
       rw [HR.out];exact ⟨rfl,rfl⟩)
  ·have hof:¬((off<0∨128<off)∨n<0):=by rw [←badB_iff];exact hb
   obtain ⟨o,rfl⟩:=Int.eq_ofNat_of_zero_le (show 0≤off by omega);obtain ⟨m,rfl⟩:=Int.eq_ofNat_of_zero_le (show 0≤n by omega);have ho:(o:Int)≤128:=b10;have e1:((o:Int)).toNat=o:=b10;have e2:((m:Int)).toNat=m:=b10;have hr:readV s (o:Int) (m:Int)=(s.extract (min o s.size) (min o s.size+min m (s.size-min o s.size)),0):=by
    unfold readV;rw [if_neg hl,if_neg hb,e1,e2]
   by_cases hge:s.size≤o
   ·have HR:Hid (readV s (o:Int) (m:Int)=(⟨#[]⟩,0)):=by
     unfold Hid;rw [hr,show min o s.size=s.size from by omega,extract_end]
    have h2:(s.size:Int)≤(o:Int):=b10;have hnn:(0:Int)≤(m:Int):=b10;clear hl hb hof hr e1 e2;exact cl88
   ·have q0:min o s.size=o:=b10;rw [q0] at hr;have HR:=Hd hr;have q2:min (m:Int) ((s.size:Int)-(o:Int))=((min m (s.size-o):Nat):Int):=b10;have q4:o+min m (s.size-o)≤s.size:=b10;have h2:(o:Int)<(s.size:Int):=b10;have hnn:(0:Int)≤(m:Int):=b10;generalize min m (s.size-o)=r at *;clear hl hb hof hr e1 e2 q0;have q6:(o:Int)+(r:Int)≤(s.size:Int):=b10;exact cl88
end Go.Proofs.YtimhaidiclbnhaaGreat.Con
namespace Go.Proofs.YtimhaidiclbnhaaGreat.Ara
def refTo (l:List Ar) (a:Ar):Nat→List Ar×Bool
 |0=>([],false)
 |k+1=>if (refTo l a k).2=false∧a.st<(l.getD k Ar.zero).st then ((refTo l a k).1++[a]++[l.getD k Ar.zero],true) else ((refTo l a k).1++[l.getD k Ar.zero],(refTo l a k).2)
def refV (l:List Ar) (a:Ar):List Ar:=if (refTo l a l.length).2=true then (refTo l a l.length).1 else (refTo l a l.length).1++[a]
theorem refTo_len (l:List Ar) (a:Ar) (k:Nat):(refTo l a k).1.length≤2*k:=by
 induction k with
 |zero=>simp [refTo]
 |succ k ih=>
  unfold refTo;split
  ·simp;omega
  ·simp;omega
theorem Blk.belowB {w w':World} {g B:Nat} {a:Ar} (h:Blk w g a) (hb:Below B w w') (hg:g<B):Blk w' g a:=
 ⟨Nat.lt_of_lt_of_le h.hi hb.size,by rw [hb.cell hg];exact h.c0,by rw [hb.cell hg];exact h.c1,by rw [hb.cell hg];exact h.c2,by rw [hb.cell hg];exact h.c3,by rw [hb.cell hg];exact h.c4,fun i hi=>by rw [hb.frozen hg];exact h.f i hi⟩
theorem cells_at {w:World} {g:Nat} {s c f p:Int} {b:Bool} (h:Blk w g ⟨s,c,f,p,b⟩) (j:Nat) (u:Value) (hj:[Value.int .i64 s,c,f,p,.bool b][j]? =some u):w.cell? (g (0+j))=some u:=by
 have hj5:j<5:=by simpa using (List.getElem?_eq_some_iff.1 hj).1
 have h5:j=0∨j=1∨j=2∨j=3∨j=4:=b10;rcases h5 with rfl|rfl|rfl|rfl|rfl<;>simp at hj<;>subst hj
 ·exact h.c0
 ·exact h.c1
 ·exact h.c2
 ·exact h.c3
 ·exact h.c4
theorem own_drewN {w:World} {B:Nat} {e:TypeId} {size n:Nat} {v:Value} {xs:List Value} (h:w.ownsRow B e size v n xs) (q:Nat):(w.drewN q).ownsRow B e size v n xs:=h
def mapRV (l:List Ar) (a:Ar):List Ar×Int:=
 if checkV l=false then (l,1) else if rightB a=false then (l,2) else if hitTo l a l.length=true then (l,5) else if 8≤l.length then (l,3) else (refV l a,0)
set_option maxHeartbeats 8000000 in
theorem mapR_any (B:Nat) (b:Option Addr) (l:List Ar) (cap:Nat) (a:Ar) (w:World) (h:ARow B b cap l w) (hl:l.length≤100):
 Calls Tryz.prog 61 #[.slice b l.length cap,arVal a] w fun e w'=>∃b' c',e=.returned (.tuple #[.slice b' (mapRV l a).1.length c',(mapRV l a).2])∧(ARow w.heap.size b' c' (mapRV l a).1 w'∨(b'=b∧c'=cap∧(mapRV l a).1=l))∧Below w w w':=by
 have HA:Hid (∀W,Below w w W→∀j,j<l.length→∃g,b=some ⟨g,0,none⟩∧g<W.heap.size∧(l.length:Int)≤cap∧Cel W g (j*5) (l.getD j Ar.zero)):=by
  exact cl33
 have HCK:Hid (∀W,Below w w W→Calls Tryz.prog 51 #[.slice b l.length cap] W (RetW (.bool (checkV l)) W)):=fun W hb=>checkR_any B b l cap W (h.below hb) hl;have HRI:=Hd (fun w=>rightR_any a w);have HR:Hid (checkV l=true→∀j,j<l.length→0≤(l.getD j Ar.zero).st∧1≤(l.getD j Ar.zero).cn∧(l.getD j Ar.zero).st+(l.getD j Ar.zero).cn≤64):=fun hc j hj=>by
  have:=rightB_iff.1 (check_right hc j hj).1;omega
 have HAR:Hid (rightB a=true→0≤a.st∧1≤a.cn∧a.st+a.cn≤64):=fun hr=>by have:=rightB_iff.1 hr;omega
 have HV1:Hid (checkV l=false→mapRV l a=(l,1)):=fun hc=>by unfold mapRV;rw [if_pos hc]
 have HV2:Hid (checkV l=true→rightB a=false→mapRV l a=(l,2)):=fun hc hr=>by unfold mapRV;rw [if_neg b40,if_pos hr]
 have HV3:Hid (checkV l=true→rightB a=true→hitTo l a l.length=true→mapRV l a=(l,5)):=fun hc hr hh=>by unfold mapRV;rw [if_neg b40,if_neg (by rw [hr];simp),if_pos hh]
 have HV4:Hid (checkV l=true→rightB a=true→hitTo l a l.length=false→mapRV l a=if 8≤l.length then (l,3) else (refV l a,0)):=fun hc hr hh=>by unfold mapRV;rw [if_neg b40,if_neg (by rw [hr];simp),if_neg (by rw [hh];simp)]
 clear h;obtain ⟨i0,hi,hz0,hz1,hz2⟩:=info_parts area_info;unfold arVal;obtain ⟨s,c,f,p,wb⟩:=a;simp only at HRI HAR;go_enter Tryz.func61,Tryz.ntmps61;go_wp2_with fail;have hbl:=Blk.new w s c f p wb;have HB:Hid (Below w w (w.alloc (Obj.cells #[s,c,f,p,.bool wb] 139))):=(Below.refl _ w).alloc Nr _;generalize w.alloc (Obj.cells #[s,c,f,p,.bool wb] 139)=w1 at *;refine (HCK.out _ HB.out).mono ?_;rintro e w2 ⟨rfl,hb⟩;have HPB:=Hd (hbl.below hb);replace HB:=Hd (HB.out.trans (hb.mono HB.out.size));clear hbl hb HCK;cases hcv:checkV l with
 |false=>
  have HVV:=Hd (HV1.out hcv);clear HV1 HV2 HV3 HV4 HR;go_wp2_with fail;go_ret2;exact ⟨b,cap,by rw [HVV.out];rfl,by rw [HVV.out];exact Or.inr ⟨rfl,rfl,rfl⟩,HB.out⟩
 |true=>
  have HR2:=Hd (HR.out hcv);replace HV2:=Hd (HV2.out hcv);replace HV3:=Hd (HV3.out hcv);replace HV4:=Hd (HV4.out hcv);clear HV1 HR hcv;have c0:=HPB.out.c0;have c1:=HPB.out.c1;have c2:=HPB.out.c2;have c3:=HPB.out.c3;have c4:=HPB.out.c4;simp only at c0 c1 c2 c3 c4;go_wp2_with fail;refine (HRI.out _).mono ?_;rintro e w4 ⟨rfl,hb⟩;clear c0 c1 c2 c3 c4 HRI;replace HB:=Hd (HB.out.trans (hb.mono HB.out.size));replace HPB:=Hd (HPB.out.below hb);clear hb;cases hrv:rightB ⟨s,c,f,p,wb⟩ with
  |false=>
   have HVV:=Hd (HV2.out hrv);clear HV2 HV3 HV4 HAR;go_wp2_with fail;go_ret2;exact ⟨b,cap,by rw [HVV.out];rfl,by rw [HVV.out];exact Or.inr ⟨rfl,rfl,rfl⟩,HB.out⟩
  |true=>
   replace HV3:=Hd (HV3.out hrv);replace HV4:=Hd (HV4.out hrv);obtain ⟨a1,a2,a3⟩:=HAR.out hrv;clear HV2 HAR hrv;have hw1:IntKind.i64.wrap (s+c)=s+c:=IntWalk.i64_in _ b10;go_wp2_with fail;go_loopw [6] (fun v6 wr=>∃k:Nat,k≤l.length∧v6=.int .i64 k∧Hid (Below w w wr)∧Hid (Blk wr w.heap.size ⟨s,c,f,p,wb⟩)∧Hid (hitTo l ⟨s,c,f,p,wb⟩ k=false)) (fun v6 _=>200-(intOf v6).toNat)
   case atStart=>exact ⟨0,Nat.zero_le _,rfl,HB,HPB,rfl⟩
   case round=>
    clear HB HPB;obtain ⟨k,hk,rfl,HB,HPB,HHT⟩:=hrel;have dd0:=HPB.out.c0;have dd1:=HPB.out.c1;have dd2:=HPB.out.c2;have dd3:=HPB.out.c3;have dd4:=HPB.out.c4;simp only at dd0 dd1 dd2 dd3 dd4;by_cases hlt:k<l.length
    ·have hlt':(k:Int)<(l.length:Int):=b10;obtain ⟨g,rfl,hg,hcap,hcel⟩:=HA.out _ HB.out k hlt;obtain ⟨e1,e2,e3⟩:=HR2.out k hlt;have hhs:=hitTo_succ l ⟨s,c,f,p,wb⟩ k hlt;have hmo:=@hitTo_mono l ⟨s,c,f,p,wb⟩ (k+1);rw [HHT.out,Bool.false_or] at hhs;clear HA;generalize l.getD k Ar.zero=e at *;obtain ⟨es,ec,ef,ep,eb⟩:=e;obtain ⟨k0,k1,k2,k3,k4⟩:=hcel;simp only at k0 k1 k2 k3 k4 e1 e2 e3;have hhb:hitB ⟨s,c,f,p,wb⟩ ⟨es,ec,ef,ep,eb⟩=decide (es<s+c∧s<es+ec):=rfl;rw [hhb] at hhs;have HHS:=Hd hhs;have HMO:=Hd hmo;clear hhs hmo hhb;have hw2:IntKind.i64.wrap (es+ec)=es+ec:=IntWalk.i64_in _ b10;have HBd:=Hd HB.out.drew;by_cases h2:s<es+ec
     ·by_cases h1:es<s+c
      ·have HH1:Hid (hitTo l ⟨s,c,f,p,wb⟩ l.length=true):=HMO.out (by rw [HHS.out];exact decide_eq_true ⟨h1,h2⟩) b10;have HVV:=Hd (HV3.out HH1.out);go_wp2_with fail;go_quiet (fail);go_wp2_with fail;go_ret2;exact ⟨_,cap,by rw [HVV.out];rfl,by rw [HVV.out];exact Or.inr ⟨rfl,rfl,rfl⟩,below_drewN HB.out _⟩
      ·have HHS2:Hid (hitTo l ⟨s,c,f,p,wb⟩ (k+1)=false):=by rw [Hid,HHS.out];exact decide_eq_false b10
       have h3:s+c≤es:=b10;exact cl75
     ·have HHS2:Hid (hitTo l ⟨s,c,f,p,wb⟩ (k+1)=false):=by rw [Hid,HHS.out];exact decide_eq_false b10
      have h3:es+ec≤s:=b10;have h4:decide (s<es+ec)=false:=decide_eq_false h2;exact cl75
    ·obtain rfl:k=l.length:=b10;have HVV:=Hd (HV4.out HHT.out);clear HV3 HV4;by_cases h8:8≤l.length
     ·have hv:=HVV.out;rw [if_pos h8] at hv;have HVW:=Hd hv;have h9:(8:Int)≤(l.length:Int):=b10;clear hv HVV;go_wp2_with fail;go_ret2;exact ⟨b,cap,by rw [HVW.out];rfl,by rw [HVW.out];exact Or.inr ⟨rfl,rfl,rfl⟩,HB.out⟩
     ·have hv:=HVV.out;rw [if_neg h8] at hv;have HVW:=Hd hv;have h9:(l.length:Int)<8:=b10;clear hv HVV;go_wp2_with fail;go_loopw [7,8,9] (fun v7 v8 v9 wr=>∃k:Nat,k≤l.length∧v9=.int .i64 k∧v8=.bool (refTo l ⟨s,c,f,p,wb⟩ k).2∧Hid (Below w w wr)∧Hid (Blk wr w.heap.size ⟨s,c,f,p,wb⟩)∧Hid (wr.ownsRow (w.heap.size+1) 139 5 v7 (refTo l ⟨s,c,f,p,wb⟩ k).1.length (flat (refTo l ⟨s,c,f,p,wb⟩ k).1))) (fun _ _ v9 _=>200-(intOf v9).toNat)
      case atStart=>exact ⟨0,Nat.zero_le _,rfl,rfl,HB,HPB,World.ownsRow_nil _ _ _ _⟩
      case round=>
       clear HB HPB dd0 dd1 dd2 dd3 dd4;obtain ⟨k,hk,rfl,rfl,HB,HPB,HO⟩:=hrel;have hrl:=refTo_len l ⟨s,c,f,p,wb⟩ k;by_cases hlt:k<l.length
       ·have hlt':(k:Int)<(l.length:Int):=b10;obtain ⟨g,rfl,_,hcap,_⟩:=HA.out _ HB.out k hlt;have HXC:Hid (∀W,Below w w W→Cel W g (k*5) (l.getD k Ar.zero)):=fun W hb=>by
         obtain ⟨g2,he,_,_,hc⟩:=HA.out W hb k hlt;cases he;exact hc
        have hsu:refTo l ⟨s,c,f,p,wb⟩ (k+1)=if (refTo l ⟨s,c,f,p,wb⟩ k).2=false∧s<(l.getD k Ar.zero).st then ((refTo l ⟨s,c,f,p,wb⟩ k).1++[⟨s,c,f,p,wb⟩]++[l.getD k Ar.zero],true) else ((refTo l ⟨s,c,f,p,wb⟩ k).1++[l.getD k Ar.zero],(refTo l ⟨s,c,f,p,wb⟩ k).2):=rfl
        have HSU:=Hd hsu;clear hsu HA;generalize (refTo l ⟨s,c,f,p,wb⟩ k).1=L at *;generalize (refTo l ⟨s,c,f,p,wb⟩ k).2=pl at *;generalize l.getD k Ar.zero=e at *;obtain ⟨es,ec,ef,ep,eb⟩:=e;have dd0:=HPB.out.c0;have dd1:=HPB.out.c1;have dd2:=HPB.out.c2;have dd3:=HPB.out.c3;have dd4:=HPB.out.c4;simp only at dd0 dd1 dd2 dd3 dd4;have hx9:=HXC.out _ HB.out;obtain ⟨k0,k1,k2,k3,k4⟩:=hx9;simp only at k0 k1 k2 k3 k4;cases pl with
        |true=>
         have hs:=HSU.out;rw [if_neg b11] at hs;have HS:=Hd hs;exact cl15
        |false=>
         by_cases hse:s<es
         ·have hs:=HSU.out;rw [if_pos ⟨rfl,hse⟩] at hs;have HS:=Hd hs;clear hs HSU;go_wp2_with fail;go_quiet (fail);replace HB:=Hd (below_drewN HB.out nq);replace HPB:=Hd (HPB.out.below (below_drewN Br nq));replace HO:=Hd (own_drewN HO.out nq);generalize wr.drewN nq=w8 at *;clear k0 k1 k2 k3 k4 dd0 dd1 dd2 dd3 dd4;have dd0:=HPB.out.c0;have dd1:=HPB.out.c1;have dd2:=HPB.out.c2;have dd3:=HPB.out.c3;have dd4:=HPB.out.c4;simp only at dd0 dd1 dd2 dd3 dd4;go_wp2_with (at_builtin;refine wpList_append_own _ rfl _ _ 106 rfl (w.heap.size+1) 139 i0 _ 5 40 Tryz.underlying106 hi hz0 hz1 hz2 rfl b14 _ _ _ rfl (HO.out.alloc _) ⟨w8.heap.size,0,none⟩ 1 1 [s,c,f,p,.bool wb] rfl rfl ?c1 ?c2 ?c3 ?c4 ?c5 ?_)
          case c1=>
           intro j u hj;rw [Addr.add_lit];exact cells_at (Blk.new w8 s c f p wb) j u hj
          case c2=>
           intro u hu;simp at hu;rcases hu with rfl|rfl|rfl|rfl|rfl<;>rfl
          case c3=>unfold maxLen;omega
          case c4=>omega
          case c5=>have:=HPB.out.hi;simp;omega
          intro vw9 w9 hown' hgrow _;have hbb:Below (w.heap.size+1) w8 w9:=((Below.refl (w.heap.size+1) w8).alloc HPB.out.hi (Obj.cells #[s,c,f,p,.bool wb] 139)).grown hgrow b70 (fun x hx=>(HO.out.lt x hx).1);replace HB:=Hd (HB.out.trans (hbb.mono (Nat.le_succ _)));replace HPB:=Hd (HPB.out.belowB hbb (Nat.lt_succ_self _));replace HO:Hid (w9.ownsRow (w.heap.size+1) 139 5 vw9 (L++[(Ar.mk s c f p wb)]).length (flat (L++[(Ar.mk s c f p wb)]))):=by
           unfold Hid;exact cl31
          clear hgrow hown' hbb;clear dd0 dd1 dd2 dd3 dd4;have hx9:=HXC.out _ HB.out;obtain ⟨k0,k1,k2,k3,k4⟩:=hx9;simp only at k0 k1 k2 k3 k4;go_wp2_with (at_builtin;refine wpList_append_own _ rfl _ _ 106 rfl (w.heap.size+1) 139 i0 _ 5 40 Tryz.underlying106 hi hz0 hz1 hz2 rfl b14 _ _ _ rfl (HO.out.alloc _) ⟨w9.heap.size,0,none⟩ 1 1 [es,ec,ef,ep,.bool eb] rfl rfl ?c1 ?c2 ?c3 ?c4 ?c5 ?_)
          case c1=>
           intro j u hj;rw [Addr.add_lit];exact cells_at (Blk.new w9 es ec ef ep eb) j u hj
          case c2=>
           intro u hu;simp at hu;rcases hu with rfl|rfl|rfl|rfl|rfl<;>rfl
          case c3=>unfold maxLen;simp;omega
          case c4=>simp;omega
          case c5=>have:=HPB.out.hi;simp;omega
          intro vw10 w10 hown' hgrow _;have hbb:Below (w.heap.size+1) w9 w10:=((Below.refl (w.heap.size+1) w9).alloc HPB.out.hi (Obj.cells #[es,ec,ef,ep,.bool eb] 139)).grown hgrow b70 (fun x hx=>(HO.out.lt x hx).1);replace HB:=Hd (HB.out.trans (hbb.mono (Nat.le_succ _)));replace HPB:=Hd (HPB.out.belowB hbb (Nat.lt_succ_self _));replace HO:Hid (w10.ownsRow (w.heap.size+1) 139 5 vw10 ((L++[Ar.mk s c f p wb])++[(Ar.mk es ec ef ep eb)]).length (flat ((L++[Ar.mk s c f p wb])++[(Ar.mk es ec ef ep eb)]))):=by
           unfold Hid;exact cl31
          clear hgrow hown' hbb;go_wp2_with fail;go_roundw
          case rel=>exact ⟨k+1,by omega,by go_num,by rw [HS.out],HB,HPB,by rw [HS.out];exact HO⟩
          case measure=>simp [intOf];omega
         ·have hs:=HSU.out;rw [if_neg (fun hh=>hse hh.2)] at hs;have HS:=Hd hs;have hse2:es≤s:=b10;have hse3:decide (s<es)=false:=decide_eq_false hse;exact cl15
       ·obtain rfl:k=l.length:=b10;have hrv:refV l ⟨s,c,f,p,wb⟩=if (refTo l ⟨s,c,f,p,wb⟩ l.length).2=true then (refTo l ⟨s,c,f,p,wb⟩ l.length).1 else (refTo l ⟨s,c,f,p,wb⟩ l.length).1++[⟨s,c,f,p,wb⟩]:=rfl
        rw [hrv] at HVW;clear hrv;generalize (refTo l ⟨s,c,f,p,wb⟩ l.length).1=L at *;generalize (refTo l ⟨s,c,f,p,wb⟩ l.length).2=pl at *;cases pl with
        |true=>
         rw [if_pos rfl] at HVW;obtain ⟨b7,c7,rfl,_,hr7⟩:=ARow.ofOwn HO.out;have HR7:=Hd hr7;go_wp2_with fail;go_ret2;exact ⟨b7,c7,by rw [HVW.out];rfl,by rw [HVW.out];exact Or.inl (HR7.out.mono (Nat.le_succ _)),HB.out⟩
        |false=>
         rw [if_neg b11] at HVW;have dd0:=HPB.out.c0;have dd1:=HPB.out.c1;have dd2:=HPB.out.c2;have dd3:=HPB.out.c3;have dd4:=HPB.out.c4;simp only at dd0 dd1 dd2 dd3 dd4;go_wp2_with (at_builtin;refine wpList_append_own _ rfl _ _ 106 rfl (w.heap.size+1) 139 i0 _ 5 40 Tryz.underlying106 hi hz0 hz1 hz2 rfl b14 _ _ _ rfl (HO.out.alloc _) ⟨wr.heap.size,0,none⟩ 1 1 [s,c,f,p,.bool wb] rfl rfl ?c1 ?c2 ?c3 ?c4 ?c5 ?_)
         case c1=>
          intro j u hj;rw [Addr.add_lit];exact cells_at (Blk.new wr s c f p wb) j u hj
         case c2=>
          intro u hu;simp at hu;rcases hu with rfl|rfl|rfl|rfl|rfl<;>rfl
         case c3=>unfold maxLen;omega
         case c4=>omega
         case c5=>have:=HPB.out.hi;simp;omega
         intro vw9 w9 hown' hgrow _;have hbb:Below (w.heap.size+1) wr w9:=((Below.refl (w.heap.size+1) wr).alloc HPB.out.hi (Obj.cells #[s,c,f,p,.bool wb] 139)).grown hgrow b70 (fun x hx=>(HO.out.lt x hx).1);replace HB:=Hd (HB.out.trans (hbb.mono (Nat.le_succ _)));replace HPB:=Hd (HPB.out.belowB hbb (Nat.lt_succ_self _));replace HO:Hid (w9.ownsRow (w.heap.size+1) 139 5 vw9 (L++[(Ar.mk s c f p wb)]).length (flat (L++[(Ar.mk s c f p wb)]))):=by
          unfold Hid;exact cl31
         clear hgrow hown' hbb;obtain ⟨b7,c7,rfl,_,hr7⟩:=ARow.ofOwn HO.out;have HR7:=Hd hr7;have HLEN:Hid ((L++[(⟨s,c,f,p,wb⟩:Ar)]).length=L.length+1):=by unfold Hid;simp
         go_wp2_with fail;go_ret2;exact ⟨b7,c7,by rw [HVW.out,HLEN.out];rfl,by rw [HVW.out];exact Or.inl (HR7.out.mono (Nat.le_succ _)),HB.out⟩
def Bef (x y:Ar):Prop:=x.st+x.cn≤y.st
structure Good (l:List Ar):Prop where
 right:∀x∈l,rightB x=true
 pw:l.Pairwise Bef
theorem right_num {a:Ar} (h:rightB a=true):0≤a.st∧1≤a.cn∧a.st+a.cn≤64∧0≤a.pg∧a.pg+a.cn≤8∧0≤a.fi∧a.fi<8:=by
 simpa [rightB] using h
theorem getD_get {l:List Ar} {i:Nat} (h:i<l.length):l.getD i Ar.zero=l[i]:=by simp [List.getD,h]
theorem good_of_check {l:List Ar} (h:checkV l=true):Good l:=by
 have hr:=check_right h;have hr1:∀i (hi:i<l.length),rightB l[i]=true:=fun i hi=>by rw [←getD_get hi];exact (hr i hi).1
 refine ⟨fun x hx=>?_,?_⟩
 ·obtain ⟨i,hi,rfl⟩:=List.mem_iff_getElem.1 hx;exact hr1 i hi
 ·rw [List.pairwise_iff_getElem];intro i j hi hj hij
  induction j with
  |zero=>omega
  |succ j ih=>
   have hn:=(hr (j+1) hj).2;unfold lastAt at hn;rw [if_neg b10] at hn;simp only [Nat.add_sub_cancel] at hn;rw [getD_get hj,getD_get (by omega:j<l.length)] at hn;by_cases he:i=j
   ·subst he;exact hn
   ·have:=ih b10 b10;unfold Bef at *;have:=right_num (hr1 j b10);omega
theorem Good.tail {x:Ar} {l:List Ar} (h:Good (x::l)):Good l:=⟨fun y hy=>h.right y (List.mem_cons_of_mem _ hy),(List.pairwise_cons.1 h.pw).2⟩
theorem Good.head {x:Ar} {l:List Ar} (h:Good (x::l)):rightB x=true:=h.right x List.mem_cons_self
theorem Good.bef {x:Ar} {l:List Ar} (h:Good (x::l)):∀y∈l,Bef x y:=(List.pairwise_cons.1 h.pw).1
def insS (a:Ar):List Ar→List Ar
 |[]=>[a]
 |x::l=>if a.st<x.st then a::x::l else x::insS a l
theorem insS_snoc (a x:Ar) (m:List Ar):insS a (m++[x])=if m.any (fun y=>decide (a.st<y.st))=true then insS a m++[x] else if a.st<x.st then m++[a]++[x] else m++[x]++[a]:=by
 induction m with
 |nil=>simp only [List.nil_append,List.any_nil];unfold insS;simp [insS]
 |cons y m ih=>
  rw [List.cons_append];unfold insS;by_cases h:a.st<y.st
  ·simp [h]
  ·simp only [h,if_false,List.any_cons,decide_false,Bool.false_or,ih];split
   ·rfl
   ·split<;>simp
theorem refTo_eq (l:List Ar) (a:Ar) (k:Nat) (hk:k≤l.length):refTo l a k=if (l.take k).any (fun y=>decide (a.st<y.st))=true then (insS a (l.take k),true) else (l.take k,false):=by
 induction k with
 |zero=>simp [refTo]
 |succ k ih=>
  have ih:=ih b10;unfold refTo;rw [ih,List.take_succ_eq_append_getElem (by omega:k<l.length),getD_get (by omega:k<l.length),insS_snoc,List.any_append];generalize l[k]=e;generalize l.take k=m;cases hm:m.any (fun y=>decide (a.st<y.st)) with
  |true=>simp
  |false=>
   by_cases he:a.st<e.st
   ·simp [he]
   ·simp [he]
theorem insS_last {a:Ar} {l:List Ar} (h:l.any (fun y=>decide (a.st<y.st))=false):insS a l=l++[a]:=by
 induction l with
 |nil=>rfl
 |cons x l ih=>
  rw [List.any_cons,Bool.or_eq_false_iff] at h;unfold insS;rw [if_neg (of_decide_eq_false h.1),ih h.2,List.cons_append]
theorem refV_eq (l:List Ar) (a:Ar):refV l a=insS a l:=by
 unfold refV;rw [refTo_eq l a l.length Nr,List.take_length];cases h:l.any (fun y=>decide (a.st<y.st)) with
 |true=>simp
 |false=>simp [insS_last h]
theorem hit_all {l:List Ar} {a:Ar} (h:hitTo l a l.length=false):∀x∈l,¬(x.st<a.st+a.cn∧a.st<x.st+x.cn):=by
 intro x hx;unfold hitTo at h;rw [List.take_length,List.any_eq_false] at h;have:=h x hx;unfold hitB at this;simpa using this
theorem hit_of {l:List Ar} {a:Ar} (h:∀x∈l,¬(x.st<a.st+a.cn∧a.st<x.st+x.cn)):hitTo l a l.length=false:=by
 unfold hitTo;rw [List.take_length,List.any_eq_false];intro x hx;unfold hitB;simpa using h x hx
theorem insAt_eq {a:Ar} {l:List Ar} (h:Good l) (ha:rightB a=true) (hh:∀x∈l,¬(x.st<a.st+a.cn∧a.st<x.st+x.cn)):insAt l (posTo l a l.length) a=insS a l:=by
 have han:=right_num ha;unfold posTo;rw [List.take_length]
 induction l with
 |nil=>rfl
 |cons x l ih=>
  have hx:=right_num h.head;have hxh:=hh x List.mem_cons_self;have ih:=ih h.tail fun y hy=>hh y (List.mem_cons_of_mem _ hy);unfold insS;by_cases hlt:a.st<x.st
  ·rw [if_pos hlt];have hc:(x::l).countP (fun y=>decide (y.st<a.st))=0:=by
    rw [List.countP_eq_zero];intro y hy;have:a.st≤y.st:=by
     rcases List.mem_cons.1 hy with rfl|hy
     ·omega
     ·have:=h.bef y hy;unfold Bef at this;omega
    simpa using this
   rw [hc];rfl
  ·rw [if_neg hlt];have hlt2:x.st<a.st:=b10;rw [List.countP_cons_of_pos (by simpa using hlt2)];unfold insAt at *;rw [List.take_succ_cons,List.drop_succ_cons,List.cons_append,ih]
theorem map_eq (l:List Ar) (a:Ar):mapV l a=mapRV l a:=by
 unfold mapV mapRV;split
 ·rfl
 ·rename_i h;split
  ·rfl
  ·rename_i ha;split
   ·rfl
   ·rename_i hh;have h:checkV l=true:=by simpa using h
    have ha:rightB a=true:=by simpa using ha
    have hl:=check_len h;have hh:=hit_all (Bool.eq_false_iff.2 hh);rw [refV_eq,insAt_eq (good_of_check h) ha hh];by_cases h8:l.length=8
    ·rw [if_pos h8,if_pos b10]
    ·rw [if_neg h8,if_neg b10]
theorem find_mem {l:List Ar} {a:Ar} {p:Int} (h:Good l) (ha:a∈l) (hi:inB p a=true):l.find? (inB p)=some a:=by
 induction l with
 |nil=>cases ha
 |cons x l ih=>
  rw [List.find?_cons];rcases List.mem_cons.1 ha with rfl|ha
  ·rw [hi]
  ·have hb:=h.bef a ha;have hn:inB p x=false:=by
    unfold inB at *;have:=of_decide_eq_true hi;unfold Bef at hb;exact decide_eq_false b10
   rw [hn];exact ih h.tail ha
theorem find_iff {l:List Ar} {a:Ar} {p:Int} (h:checkV l=true):findV l p=some a↔a∈l∧inB p a=true:=by
 unfold findV;rw [if_pos h];exact ⟨fun he=>⟨List.mem_of_find?_eq_some he,List.find?_some he⟩,fun he=>find_mem (good_of_check h) he.1 he.2⟩
end Go.Proofs.YtimhaidiclbnhaaGreat.Ara
