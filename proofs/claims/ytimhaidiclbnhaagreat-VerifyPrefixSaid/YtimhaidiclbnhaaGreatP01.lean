import Derived.Test.YtimhaidiclbnhaaGreatP00
set_option linter.unusedSimpArgs false
set_option linter.unusedVariables false
set_option maxRecDepth 100000
open Go.ChangeShapes Go.WideShapes Go.ChangeAt Go.RowKit
namespace Go.Proofs.YtimhaidiclbnhaaGreat
def RetW (v:Value) (w:World) (e:Ending) (w':World):Prop:=e=.returned v∧Below w w w'
theorem RetW.mk {v v':Value} {w w':World} (h:v'=v) (hb:Below w w w'):RetW v w (.returned v') w':=⟨by rw [h],hb⟩
theorem bcell {W w1:World} (hb:Below W W w1):(∀b o,b<W.heap.size→w1.cell? ⟨b,o,none⟩=W.cell? ⟨b,o,none⟩)∧(∀b o,b<W.heap.size→w1.frozen? ⟨b,o,none⟩=W.frozen? ⟨b,o,none⟩):=
 ⟨fun b o h=>hb.cell (p:=⟨b,o,none⟩) h,fun b o h=>hb.frozen (p:=⟨b,o,none⟩) h⟩
theorem bnext {W w1:World} {B:Nat} (hb:Below W W w1) (hB:B≤W.heap.size):B≤w1.heap.size:=Nat.le_trans hB hb.size
theorem ret_int {k:IntKind} {a b:Int} (h:a=b):Ending.returned (.int k a)=.returned (.int k b):=by rw [h]
def rnd (n m:Int):Int:=(n%18446744073709551616)%m
theorem rnd_lo (n m:Int) (hm:1≤m):0≤rnd n m:=Int.emod_nonneg _ b10
theorem rnd_hi (n m:Int) (hm:1≤m):rnd n m<m:=Int.emod_lt_of_pos _ b10
theorem rnd_eq (n m:Int) (hm:1≤m) (hm2:m≤1000000):wrap64 ((IntKind.u64.wrap n).tmod m)=rnd n m:=by
 have e:IntKind.u64.wrap n=n%18446744073709551616:=rfl;have h0:0≤n%18446744073709551616:=Int.emod_nonneg _ b10;rw [e,Int.tmod_eq_emod_of_nonneg h0];have:=rnd_lo n m hm;have:=rnd_hi n m hm;unfold rnd at *;exact IntWalk.wrap64_in _ b10
set_option maxHeartbeats 400000 in
theorem cut_any (n m:Int) (w:World) (hm:1≤m) (hm2:m≤1000000):
 Calls Tryz.prog 15 #[n,m] w fun e w'=>e=.returned (.int .i64 (rnd n m))∧w=w':=by
 go_enter Tryz.func15,Tryz.ntmps15;go_wp2;go_ret;exact ⟨ret_int (by first|exact rnd_eq n m hm hm2|exact rnd_eq' n m hm hm2),rfl⟩
theorem cut_some (n m:Int) (w:World) (hm:1≤m) (hm2:m≤1000000):
 Calls Tryz.prog 15 #[n,m] w fun e w'=>∃r:Int,0≤r∧r<m∧e=.returned (.int .i64 r)∧w=w':=
 (cut_any n m w hm hm2).mono fun e w' h=>⟨rnd n m,rnd_lo n m hm,rnd_hi n m hm,h⟩
def ArgRow (w:World) (a:Option Addr) (len:Nat):Prop:=
 ∃(b o:Nat) (zs:List Int),len≤zs.length∧∀k,k<len→a=some ⟨b,o,none⟩∧b<w.heap.size∧w.cell? (b (o+k))=some ((zs.getD k 0):U)
theorem ArgRow.at {w wr:World} {a:Option Addr} {len:Nat} (h:ArgRow w a len) (hb:Below w w wr) (k:Nat) (hk:k<len):
 ∃b o z,a=some ⟨b,o,none⟩∧b<w.heap.size∧wr.cell? ⟨b,o+k,none⟩=some (.int .i64 z):=by
 obtain ⟨b,o,zs,_,hh⟩:=h;obtain ⟨h1,h2,h3⟩:=hh k hk;exact ⟨b,o,_,h1,h2,(hb.cell (p:=⟨b,o+k,none⟩) h2).trans h3⟩
structure Tick (t:Nat) (w w':World):Prop where
 os:w'.os=w.os
 tape:w'.tape=w.tape
 output:w'.output=w.output
 size:w'.heap.size=w.heap.size
 block:∀k,k≠t→w'.heap[k]? =w.heap[k]?
theorem Tick.refl (t:Nat) (w:World):Tick t w w:=⟨rfl,rfl,rfl,rfl,fun _ _=>rfl⟩
theorem Tick.drewN {t:Nat} {w w':World} (h:Tick t w w') (q:Nat):Tick t w (w'.drewN q):=⟨h.os,h.tape,h.output,h.size,h.block⟩
theorem Tick.drew {t:Nat} {w w':World} (h:Tick t w w'):Tick t w w'.drew:=⟨h.os,h.tape,h.output,h.size,h.block⟩
theorem Tick.setCell {t:Nat} {w w':World} (h:Tick t w w') (o:Nat) (u:Value):Tick t w (w'.setCell (t o) u):=
 ⟨h.os,h.tape,h.output,by simp [World.setCell,h.size],fun k hk=>(Below.heap_setCell w' ⟨t,o,none⟩ u k hk).trans (h.block k hk)⟩
theorem Tick.below {t B:Nat} {w w':World} (h:Tick t w w') (hB:B≤t):Below B w w':=
 ⟨h.os,h.tape,h.output,Nat.le_of_eq h.size.symm,fun k hk=>h.block k b10⟩
theorem Tick.cell {t:Nat} {w w':World} (h:Tick t w w') {b o:Nat} (hb:b≠t):w'.cell? (b o)=w.cell? (b o):=World.cell?_of_block (w:=w) (a:=⟨b,o,none⟩) (h.block b hb)
theorem Tick.frozen {t:Nat} {w w':World} (h:Tick t w w') {b o:Nat} (hb:b≠t):w'.frozen? (b o)=w.frozen? (b o):=World.frozen?_of_block (w:=w) (a:=⟨b,o,none⟩) (h.block b hb)
theorem Tick.own {t:Nat} {w w':World} (h:Tick t w w') {base:Nat} {e:TypeId} {size:Nat} {v:Value} {n:Nat} {xs:List Value} (hr:w.ownsRow base e size v n xs) (hb:t<base):w'.ownsRow base e size v n xs:=by
 obtain ⟨h1,h2⟩:=hr;refine ⟨h1,?_⟩;rcases h2 with h2|⟨g,cap,cur,hv,hg,hh,r⟩
 ·exact Or.inl h2
 ·exact Or.inr ⟨g,cap,cur,hv,hg,(h.block g b10).trans hh,r⟩
structure TapeAt (w0 w:World) (t:Nat) (a:Option Addr) (len cap k:Nat):Prop where
 row:ArgRow w0 a len
 lo:w0.heap.size≤t
 hi:t<w.heap.size
 bel:Below w0 w0 w
 c0:w.cell? (t 0)=some (.slice a len cap)
 c1:w.cell? (t 1)=some (k:U)
 fz:w.frozen? (t 1)=false
 kl:k≤len
 lm:len≤maxLen
theorem TapeAt.below {w0 w w':World} {t:Nat} {a:Option Addr} {len cap k B:Nat} (h:TapeAt w0 w t a len cap k) (hb:Below B w w') (hB:t<B):TapeAt w0 w' t a len cap k:=
 ⟨h.row,h.lo,Nat.lt_of_lt_of_le h.hi hb.size,h.bel.trans (hb.mono (by have:=h.lo;omega)),(hb.cell (p:=(t 0)) hB).trans h.c0,(hb.cell (p:=(t 1)) hB).trans h.c1,(hb.frozen (p:=(t 1)) hB).trans h.fz,h.kl,h.lm⟩
theorem TapeAt.step {w0 w:World} {t:Nat} {a:Option Addr} {len cap k:Nat} (h:TapeAt w0 w t a len cap k) (hk:k<len) (q:Nat):TapeAt w0 ((w.drewN q).setCell (t 1) ((k+1:Nat):Int)) t a len cap (k+1) where
 row:=h.row
 lo:=h.lo
 hi:=by simp [World.setCell];exact h.hi
 bel:=Below.setCell (below_drewN h.bel q) h.lo _
 c0:=by rw [World.cell?_setCell_other];exact h.c0;simp
 c1:=World.cell?_setCell_same _ _ _ (u:=.int .i64 k) h.c1
 fz:=by rw [World.frozen?_setCell];exact h.fz
 kl:=hk
 lm:=h.lm
set_option maxHeartbeats 1000000 in
theorem next_any (n:Int) (w0 w:World) (t:Nat) (a:Option Addr) (len cap k:Nat) (hn:1≤n) (hn2:n≤1000000) (h:TapeAt w0 w t a len cap k):
 Calls Tryz.prog 9 #[.pointer (some (t 0)),n] w fun e w'=>∃r:Int,0≤r∧r<n∧e=.returned (.int .i64 r)∧Tick t w w'∧TapeAt w0 w' t a len cap (if k<len then k+1 else k):=by
 have hlm:=h.lm;unfold maxLen at hlm;have hc0:=h.c0;have hc1:=h.c1;have hfz:=h.fz;have hhi:=h.hi;by_cases hk:k<len
 ·rw [if_pos hk];obtain ⟨b,o,z,rfl,hb,hz⟩:=h.row.at h.bel k hk;have c1:(k:Int)<(len:Int):=b10;have hne:t≠b:=by have:=h.lo;omega
  have hst:=fun q=>h.step hk q;have HS:=Hd hst;have HK:=Hd hk;clear hst hk h;go_enter Tryz.func9,Tryz.ntmps9;go_wp2_with fail;go_quiet (fail);go_wp2_with fail;have ht:=HS.out nq;have hz':((w.drewN nq).setCell (t 1) (.int .i64 ((k:Int)+1))).cell? (b (o+k))=some (z:U):=by
   rw [World.cell?_setCell_other]
   ·exact hz
   ·simp;try (intro h;exact absurd h hne)
  have htk:Tick t w ((w.drewN nq).setCell (t 1) (.int .i64 ((k:Int)+1))):=((Tick.refl t w).drewN nq).setCell 1 _;rw [show ((k+1:Nat):Int)=(k:Int)+1 from by omega] at ht;generalize (w.drewN nq).setCell (t 1) (.int .i64 ((k:Int)+1))=w2 at ht hz' htk ⊢;have hd0:=ht.c0;have hd1:=ht.c1;rw [show ((k+1:Nat):Int)=(k:Int)+1 from by omega] at hd1;have HT:=Hd ht;have HTK:=Hd htk;have hkk:IntKind.i64.wrap (k:Int)=(k:Int):=IntWalk.i64_in _ b10;clear ht htk hz hfz HS;go_still_tail 12,b12;change wpList _ _ _ _ _ w2.drew;go_wp2_with fail;refine (cut_some _ _ _ b10 b10).mono ?_;rintro e w' ⟨r,hr0,hr1,rfl,rfl⟩;go_wp2_with fail;go_ret;exact ⟨r,hr0,hr1,rfl,HTK.out.drew,HT.out.below (Below.drew (Below.refl w2 w2)) HT.out.hi⟩
 ·rw [if_neg hk];have c1:(len:Int)≤(k:Int):=b10;go_enter Tryz.func9,Tryz.ntmps9;go_wp2_with fail;go_quiet (fail);go_wp2_with fail;go_ret;exact ⟨0,by omega,by omega,rfl,(Tick.refl t w).drewN nq,h.below (below_drewN (Below.refl w w) nq) h.hi⟩
def zeros (n:Nat):ByteArray:=⟨(List.replicate n (0:UInt8)).toArray⟩
theorem size_zeros (n:Nat):(zeros n).size=n:=by simp [zeros,ByteArray.size]
theorem made_at (z:Value) (n j:Nat) (h:j<n):(madeCells #[z] n)[j]? =some z:=by
 unfold madeCells;simp [h,Nat.mod_one]
theorem byte_info:(Tryz.prog.info? 5).map (fun i=>(i.zero,i.size,i.bytes))=some (some (.int .u8 0),1,1):=by kernel_rfl
theorem make_bytes (n:Int) (h0:0≤n) (h1:n≤1000000) (w:World):
 (Instr.makeSlice 68 (.int .i64 n) (.int .i64 n)).run Tryz.prog w=.ok (.slice (some (w 0 0)) n.toNat n.toNat) (w.alloc (.cells (madeCells #[.int .u8 0] n.toNat) 5)):=by
 obtain ⟨k,rfl⟩:=Int.eq_ofNat_of_zero_le h0;exact run_make_row' (P:=Tryz.prog) 68 5 (.int .u8 0) 1 Tryz.underlying68 byte_info rfl .i64 .i64 k b10 b10 w
theorem conv_bytes (w:World) (b n cap:Nat) (l:List UInt8) (hn:l.length=n) (hc:∀j (hj:j<l.length),w.cell? (b j)=some (.int .u8 (l[j].toNat:Int))):
 (convert 68 9 (.slice (some (b 0)) n cap)).run Tryz.prog w=.ok (.string ⟨l.toArray⟩) w:=by
 subst hn;refine run_convert_bytes_back (P:=Tryz.prog) w 68 9 5 ⟨b,0,none⟩ cap l Tryz.underlying68 Tryz.underlying5 Tryz.underlying9 ?_;intro j hj;have:(⟨b,0,none⟩:Addr).add j=⟨b,j,none⟩:=by unfold Addr.add;split<;>simp_all
 rw [this];exact hc j hj
theorem conv_zeros (n:Nat) (w:World):
 (convert 68 9 (.slice (some (w 0 0)) n n)).run Tryz.prog (w.alloc (.cells (madeCells #[.int .u8 0] n) 5))=.ok (.string (zeros n)) (w.alloc (.cells (madeCells #[.int .u8 0] n) 5)):=by
 refine conv_bytes _ _ n n (List.replicate n 0) b11 ?_;intro j hj;have hj':j<n:=by simpa using hj
 rw [World.cell?_alloc_mark,made_at _ _ _ hj'];simp
def TP (w0:World) (t:Nat) (a:Option Addr) (len cap:Nat) (w:World):Prop:=∃k,TapeAt w0 w t a len cap k
structure Tock (t:Nat) (w w':World):Prop where
 os:w'.os=w.os
 tape:w'.tape=w.tape
 output:w'.output=w.output
 size:w.heap.size≤w'.heap.size
 block:∀k,k≠t→k<w.heap.size→w'.heap[k]? =w.heap[k]?
theorem Tock.refl (t:Nat) (w:World):Tock t w w:=⟨rfl,rfl,rfl,Nat.le_refl _,fun _ _ _=>rfl⟩
theorem Tick.tock {t:Nat} {w w':World} (h:Tick t w w'):Tock t w w':=⟨h.os,h.tape,h.output,Nat.le_of_eq h.size.symm,fun k hk _=>h.block k hk⟩
theorem Tock.ofBelow {t B:Nat} {w w':World} (h:Below B w w') (hB:w.heap.size≤B):Tock t w w':=⟨h.os,h.tape,h.output,h.size,fun k _ hk=>h.block k (Nat.lt_of_lt_of_le hk hB)⟩
theorem Tock.trans {t:Nat} {w w1 w2:World} (h1:Tock t w w1) (h2:Tock t w1 w2):Tock t w w2:=
 ⟨h2.os.trans h1.os,h2.tape.trans h1.tape,h2.output.trans h1.output,Nat.le_trans h1.size h2.size,fun k hk hl=>(h2.block k hk (Nat.lt_of_lt_of_le hl h1.size)).trans (h1.block k hk hl)⟩
theorem Tock.cell {t:Nat} {w w':World} (h:Tock t w w') {b o:Nat} (hb:b≠t) (hl:b<w.heap.size):w'.cell? (b o)=w.cell? (b o):=World.cell?_of_block (w:=w) (a:=⟨b,o,none⟩) (h.block b hb hl)
theorem TP.hi {w0 w:World} {t:Nat} {a:Option Addr} {len cap:Nat} (h:TP w0 t a len cap w):t<w.heap.size:=h.choose_spec.hi
theorem TP.below {w0 w w':World} {t:Nat} {a:Option Addr} {len cap B:Nat} (h:TP w0 t a len cap w) (hb:Below B w w') (hB:t<B):TP w0 t a len cap w':=by
 obtain ⟨k,h⟩:=h;exact ⟨k,h.below hb hB⟩
theorem next_tp (n:Int) (w0 w:World) (t:Nat) (a:Option Addr) (len cap:Nat) (hn:1≤n) (hn2:n≤1000000) (h:TP w0 t a len cap w):
 Calls Tryz.prog 9 #[.pointer (some (t 0)),n] w fun e w'=>∃r:Int,0≤r∧r<n∧e=.returned (.int .i64 r)∧Tick t w w'∧TP w0 t a len cap w':=by
 obtain ⟨k,h⟩:=h;exact (next_any n w0 w t a len cap k hn hn2 h).mono fun e w' ⟨r,h0,h1,he,ht,hk⟩=>⟨r,h0,h1,he,ht,_,hk⟩
structure BInv (w0 w:World) (t:Nat) (a:Option Addr) (len cap n:Nat) (l:List UInt8) (wr:World):Prop where
 tp:TP w0 t a len cap wr
 tk:Tock t w wr
 hi:w.heap.size<wr.heap.size
 tl:t<w.heap.size
 cell:∀j,j<n→wr.cell? (w 0 j)=some (.int .u8 ((l.getD j 0).toNat:Int))
 free:∀j,wr.frozen? (w 0 j)=false
theorem BInv.start {w0 w:World} {t:Nat} {a:Option Addr} {len cap:Nat} (n:Nat) (h:TP w0 t a len cap w):BInv w0 w t a len cap n [] (w.alloc (.cells (madeCells #[.int .u8 0] n) 5)):=by
 have hb:=(Below.refl w w).alloc Nr (.cells (madeCells #[.int .u8 0] n) 5);refine ⟨h.below hb h.hi,Tock.ofBelow hb Nr,by simp,h.hi,fun j hj=>?_,fun j=>by simp⟩;rw [World.cell?_alloc_mark,made_at _ _ _ hj];simp
theorem BInv.tick {w0 w wr w':World} {t:Nat} {a:Option Addr} {len cap n:Nat} {l:List UInt8} (h:BInv w0 w t a len cap n l wr) (ht:Tick t wr w') (hp:TP w0 t a len cap w'):BInv w0 w t a len cap n l w':=
 ⟨hp,h.tk.trans ht.tock,by rw [ht.size];exact h.hi,h.tl,fun j hj=>by rw [ht.cell (by have:=h.tl;omega)];exact h.cell j hj,fun j=>by rw [ht.frozen (by have:=h.tl;omega)];exact h.free j⟩
theorem BInv.set {w0 w wr:World} {t:Nat} {a:Option Addr} {len cap n:Nat} {l:List UInt8} (h:BInv w0 w t a len cap n l wr) (k:Nat) (hk:k<n) (hl:l.length=k) (x:UInt8):
 BInv w0 w t a len cap n (l++[x]) (wr.setCell (w 0 k) (.int .u8 (x.toNat:Int))):=by
 have htl:=h.tl;have hb:Below w wr (wr.setCell (w 0 k) (.int .u8 (x.toNat:Int))):=Br.setCell (p:=(w 0 k)) Nr _;refine ⟨h.tp.below hb htl,?_,by simpa [World.setCell] using h.hi,htl,fun j hj=>?_,fun j=>by rw [World.frozen?_setCell];exact h.free j⟩
 ·exact ⟨h.tk.os,h.tk.tape,h.tk.output,Nat.le_trans h.tk.size hb.size,fun i hi hil=>(hb.block i hil).trans (h.tk.block i hi hil)⟩
 ·by_cases e:j=k
  ·subst e;rw [World.cell?_setCell_same _ _ _ (h.cell j hj)];simp [List.getD,←hl]
  ·rw [World.cell?_setCell_other _ _ _ _ (by intro h;exact e (by cases h;rfl)),h.cell j hj];congr 3
   by_cases h1:j<k
   ·simp [List.getD,List.getElem?_append_left (show j<l.length by omega)]
   ·have h2:l[j]? =none:=List.getElem?_eq_none b10;have h3:(l++[x])[j]? =none:=List.getElem?_eq_none b16;simp [List.getD,h2,h3]
theorem BInv.conv {w0 w wr:World} {t:Nat} {a:Option Addr} {len cap n:Nat} {l:List UInt8} (h:BInv w0 w t a len cap n l wr) (hl:l.length=n):
 (convert 68 9 (.slice (some (w 0 0)) n n)).run Tryz.prog wr=.ok (.string ⟨l.toArray⟩) wr:=by
 refine conv_bytes wr w.heap.size n n l hl ?_;intro j hj;rw [h.cell j b10];simp [List.getD,List.getElem?_eq_getElem hj]
set_option maxHeartbeats 1000000 in
theorem bytes_any (n:Nat) (w0 w:World) (t:Nat) (a:Option Addr) (len cap:Nat) (hn:n≤1000) (h:TP w0 t a len cap w):
 Calls Tryz.prog 8 #[.pointer (some (t 0)),n] w fun e w'=>∃s:ByteArray,s.size=n∧e=.returned (.string s)∧Tock t w w'∧TP w0 t a len cap w':=by
 have hmk:=make_bytes (n:Int) b10 b10;rw [show ((n:Int)).toNat=n from by omega] at hmk;have hst:=BInv.start n h;have HST:=Hd hst;clear hst;go_enter Tryz.func8,Tryz.ntmps8;go_wp2_with fail;go_loopw [11] (fun i wr=>∃k:Nat,k≤n∧i=.int .i64 k∧∃l:List UInt8,l.length=k∧BInv w0 w t a len cap n l wr) (fun i _=>n-(intOf i).toNat)
 case atStart=>exact ⟨0,Nat.zero_le _,rfl,[],rfl,HST.out⟩
 case round=>
  obtain ⟨k,hk,rfl,l,hl,hinv⟩:=hrel;have HL:=Hd hl;clear hl;by_cases hlt:k<n
  ·have htp:=hinv.tp;go_wp2_with (go_at_call 9;refine (next_tp 8 _ _ _ _ _ _ b10 b10 htp).mono ?_;rintro e w' ⟨r,hr0,hr1,rfl,htk,htp'⟩;have hinv':=hinv.tick htk htp';have c0:=hinv'.cell k hlt;have f0:=hinv'.free k)
   go_roundw
   case rel=>exact ⟨k+1,by omega,by go_num,l++[_],by simp [HL.out],hinv'.set k hlt HL.out _⟩
   case measure=>simp [intOf];omega
  ·obtain rfl:k=n:=b10;have hcv:=hinv.conv HL.out;go_wp2_with fail;go_ret;refine ⟨⟨l.toArray⟩,?_,rfl,hinv.tk,hinv.tp⟩;rw [←HL.out];rfl
end Go.Proofs.YtimhaidiclbnhaaGreat
namespace Go.Proofs.YtimhaidiclbnhaaGreat.Des
def rightB (c e:Int):Bool:=decide (0≤c)&&decide (c≤1000000)&&((c==0)==(e==0))
set_option maxHeartbeats 400000 in
theorem right_any (c e:Int) (w:World):
 Calls Tryz.prog 159 #[.agg #[c,e]] w (RetW (.bool (rightB c e)) w):=by
 go_enter Tryz.func159,Tryz.ntmps159;go_wp2
 all_goals
  go_ret;refine RetW.mk (by unfold rightB;simp [*];try omega) ?_;exact Br.alloc Nr _
theorem right_bd {c e:Int} (h:rightB c e=true):0≤c∧c≤1000000∧(c=0↔e=0):=by
 unfold rightB at h;simp at h;refine ⟨h.1.1,h.1.2,?_⟩;have:=h.2;by_cases h1:c=0<;>by_cases h2:e=0<;>simp_all
def wellB (c e u:Int):Bool:=rightB c e&&decide (0≤u)&&decide (u≤c)
set_option maxHeartbeats 1000000 in
theorem well_any (c e u:Int) (b:Nat) (w:World) (hb0:b<w.heap.size) (hu:w.cell? (b 0)=some (u:U)):
 Calls Tryz.prog 152 #[.pointer (some (b 0)),.agg #[c,e]] w (RetW (.bool (wellB c e u)) w):=by
 unfold wellB;have hne:b≠w.heap.size:=b10;have hlt:b<w.heap.size+1:=b10;by_cases hr:rightB c e=true
 ·by_cases hu0:0≤u
  ·have hd:decide (0≤u)=true:=by simpa using hu0
   go_enter Tryz.func152,Tryz.ntmps152;go_wp2_with fail;go_region_held3 (fun w'=>w'.cell? (b 0)=some (u:U)∧w'.cell? (w 0 0)=some (c:U)∧w'.cell? (w 0 1)=some (e:U)) (go_keep) (first|(go_at_call 159;refine (right_any _ _ _).mono ?_;rintro e w' ⟨rfl,hb⟩;obtain ⟨hc,hf⟩:=bcell hb;have hy:w.heap.size<w'.heap.size:=bnext (B:=w.heap.size+1) hb b63))
   all_goals
    go_wp2;go_ret;refine RetW.mk (by simp [Act.put, *];try omega) ?_
    repeat (first|exact Below.refl _ _ |(refine Below.drew ?_)|(refine Below.setCell ?_ b11 _)|(refine Below.alloc ?_ (by first|(simp;done)|(simp;omega)) _)|refine Below.trans ?_ (Below.mono b39 (by first|omega|(simp;done)|(simp;omega))))
  ·have hd:decide (0≤u)=false:=by simpa using hu0
   exact cl37
 ·have hr:rightB c e=false:=by simpa using hr
  exact cl37
def lookS (c e u:Int):Int×Int:=if wellB c e u=false then (1,u) else if u=c then (0,u) else (e,c)
def LookPost (v u:Int) (b:Nat) (w:World) (e:Ending) (w':World):Prop:=
 e=.returned (.int .i64 v)∧Below b w w'∧w'.cell? (b 0)=some (u:U)∧w'.frozen? (b 0)=false∧b<w'.heap.size
theorem well_bd {c e u:Int} (h:wellB c e u=true):0≤c∧c≤1000000∧0≤u∧u≤c:=by
 unfold wellB at h;simp at h;have:=right_bd h.1.1;omega
set_option maxHeartbeats 1000000 in
theorem look_any (c e u:Int) (b:Nat) (w:World) (hb0:b<w.heap.size) (hu:w.cell? (b 0)=some (u:U)) (hfz:w.frozen? (b 0)=false):
 Calls Tryz.prog 144 #[.pointer (some (b 0)),.agg #[c,e]] w (LookPost (lookS c e u).1 (lookS c e u).2 b w):=by
 have hne:b≠w.heap.size:=b10;have hlt:b<w.heap.size+1:=b10;by_cases hr:wellB c e u=true
 ·have hbd:=well_bd hr;have h0:0≤c:=hbd.1;have h1:c≤1000000:=hbd.2.1;clear hbd;by_cases huc:u=c
  ·subst huc;have hs:lookS u e u=(0,u):=by simp [lookS,hr]
   rw [hs];go_enter Tryz.func144,Tryz.ntmps144;go_wp2_with fail;refine (well_any _ _ u _ _ ?_ ?_).mono ?_
   ·exact Nat.lt_of_lt_of_le hb0 b11
   ·exact cl80
   rintro e w' ⟨rfl,hb⟩;obtain ⟨hc,hf⟩:=bcell hb;have hy:w.heap.size<w'.heap.size:=bnext (B:=w.heap.size+1) hb b63;go_wp2_with fail;have hlt2:b<w'.heap.size:=b10;have hB:Below w w w':=(Br.alloc Nr _).trans (hb.mono b11);have k1:w'.cell? (b 0)=some (u:U):=(hB.cell (p:=(b 0)) hb0).trans hu;have k2:w'.frozen? (b 0)=false:=(hB.frozen (p:=(b 0)) hb0).trans hfz;go_quiet (fail);go_wp2;go_ret;refine ⟨rfl,?_,by simp [k1],by simp [k2],by simp [hlt2]⟩;first|exact below_drewN (hB.mono (Nat.le_of_lt hb0)) _ |exact hB.mono (Nat.le_of_lt hb0)
  ·have hs:lookS c e u=(e,c):=by simp [lookS,hr,huc]
   have hn:(u==c)=false:=by simpa using huc
   clear huc;rw [hs];go_enter Tryz.func144,Tryz.ntmps144;go_wp2_with fail;refine (well_any _ _ u _ _ ?_ ?_).mono ?_
   ·exact Nat.lt_of_lt_of_le hb0 b11
   ·exact cl80
   rintro e w' ⟨rfl,hb⟩;obtain ⟨hc,hf⟩:=bcell hb;have hy:w.heap.size<w'.heap.size:=bnext (B:=w.heap.size+1) hb b63;go_wp2_with fail;have hlt2:b<w'.heap.size:=b10;have hB:Below w w w':=(Br.alloc Nr _).trans (hb.mono b11);have k1:w'.cell? (b 0)=some (u:U):=(hB.cell (p:=(b 0)) hb0).trans hu;have k2:w'.frozen? (b 0)=false:=(hB.frozen (p:=(b 0)) hb0).trans hfz;go_quiet (fail);go_wp2;go_ret;refine ⟨rfl,?_,?_,?_,by simp [hlt2]⟩
   ·refine Below.setCell (p:=(b 0)) ?_ (Nat.le_refl b) _;first|exact below_drewN (hB.mono (Nat.le_of_lt hb0)) _ |exact hB.mono (Nat.le_of_lt hb0)
   ·exact World.cell?_setCell_same _ _ _ (u:=.int .i64 u) k1
   ·rw [World.frozen?_setCell];exact k2
 ·have hr:wellB c e u=false:=by simpa using hr
  have hs:lookS c e u=(1,u):=by simp [lookS,hr]
  rw [hs];go_enter Tryz.func144,Tryz.ntmps144;go_wp2_with fail;refine (well_any _ _ u _ _ ?_ ?_).mono ?_
  ·exact Nat.lt_of_lt_of_le hb0 b11
  ·exact cl80
  rintro e w' ⟨rfl,hb⟩;obtain ⟨hc,hf⟩:=bcell hb;have hy:w.heap.size<w'.heap.size:=bnext (B:=w.heap.size+1) hb b63;go_wp2_with fail;go_ret;have hlt2:b<w'.heap.size:=b10;have hB:Below w w w':=(Br.alloc Nr _).trans (hb.mono b11);refine ⟨rfl,hB.mono b10,(hB.cell (p:=(b 0)) hb0).trans hu,(hB.frozen (p:=(b 0)) hb0).trans hfz,hlt2⟩
set_option maxHeartbeats 1000000 in
theorem check_any (c e u:Int) (w:World):
 Calls Tryz.prog 139 #[.agg #[c,e],u] w (RetW (.tuple #[(lookS c e u).1,(lookS c e u).2]) w):=by
 go_enter Tryz.func139,Tryz.ntmps139;go_wp2_with fail;refine (look_any _ _ u _ _ ?_ ?_ ?_).mono ?_
 ·simp
 ·simp
 ·simp
 rintro e w' ⟨rfl,hb,k1,k2,hlt⟩;go_wp2_with fail;go_quiet (fail);go_wp2;go_ret2;refine RetW.mk rfl ?_;refine below_drewN ?_ _;exact ((Br.alloc Nr _).alloc b11 _).trans (hb.mono b11)
def curB (n:Int):Bool:=decide (0≤n∧n≤1000000)
theorem cur_look (e n:Int) (he:e≠1) (h0:e≠0):(!((lookS 1000000 e n).1==1))=curB n:=by
 have hr:rightB 1000000 e=true:=by simp [rightB,h0]
 unfold lookS wellB curB;rw [hr];by_cases h1:0≤n<;>by_cases h2:n≤1000000<;>simp [h1,h2]<;>(try split)<;>simp_all
set_option maxHeartbeats 1000000 in
theorem cursor_any (n:Int) (w:World):Calls Tryz.prog 119 #[n] w (RetW (.bool (curB n)) w):=by
 have HC:=Hd (cur_look 10 n b10 b10);go_enter Tryz.func119,Tryz.ntmps119;go_wp2_with fail;refine (check_any 1000000 10 n _).mono ?_;rintro e w' ⟨rfl,hb⟩;have HB:=Hd (((Below.refl w w).alloc Nr (Obj.cells #[(1000000:Int),(10:Int)] 179)).trans (hb.mono b11));clear hb;obtain ⟨c1,hc1⟩:∃c1,c1=(lookS 1000000 10 n).1:=⟨_,rfl⟩
 have HD:Hid ((!(c1==1))=curB n):=by rw [hc1];exact HC.out
 rw [←hc1];generalize (lookS 1000000 10 n).2=c2;clear HC hc1;go_wp2_with fail;go_ret;exact RetW.mk (by rw [←HD.out];first|rfl|(congr 1)) HB.out
def fixB (fi fl:Int):Bool:=decide (0≤fi∧fi<8∧1≤fl∧fl≤7∧fl≠4)
def movB (f c:Int):Bool:=decide (0≤f∧f≤128)&&curB c
theorem fl_cases {fl:Int} (h1:1≤fl) (h2:fl≤7):fl=1∨fl=2∨fl=3∨fl=4∨fl=5∨fl=6∨fl=7:=b10
set_option maxHeartbeats 1000000 in
theorem fixed_any (fi fl:Int) (w:World):Calls Tryz.prog 118 #[fi,fl] w (RetW (.bool (fixB fi fl)) w):=by
 have HR:Hid (fixB fi fl=decide (0≤fi∧fi<8∧1≤fl∧fl≤7∧fl≠4)):=rfl;generalize fixB fi fl=r at *;by_cases h:0≤fi∧fi<8∧1≤fl∧fl≤7
 ·obtain ⟨h1,h2,h3,h4⟩:=h;rcases fl_cases h3 h4 with rfl|rfl|rfl|rfl|rfl|rfl|rfl
  all_goals
   go_enter Tryz.func118,Tryz.ntmps118;go_wp2_with fail;go_ret;exact RetW.mk (by rw [HR.out];simp [h1,h2];try (first|rfl|decide)) Br
 ·have HN:=Hd h;have HF:Hid (r=false):=by rw [Hid,HR.out];exact decide_eq_false (fun hh=>h ⟨hh.1,hh.2.1,hh.2.2.1,hh.2.2.2.1⟩)
  clear h;go_enter Tryz.func118,Tryz.ntmps118;go_wp2_with fail
  all_goals first|(exfalso;have:=HN.out;omega)|(go_ret;exact RetW.mk (by rw [HF.out];rfl) Br)
structure Dn where
 fi:Int
 fl:Int
 f:Int
 cu:Int
 rf:Int
deriving DecidableEq
def Dn.cells (a:Dn):List Value:=[a.fi,a.fl,a.f,a.cu,a.rf]
def Dn.zero:Dn:=⟨0,0,0,0,0⟩
def dnVal (a:Dn):Value:=.agg #[a.fi,a.fl,a.f,a.cu,a.rf]
def rightD (a:Dn):Bool:=fixB a.fi a.fl&&movB a.f a.cu
set_option maxHeartbeats 1000000 in
theorem moving_any (a:Dn) (w:World):Calls Tryz.prog 128 #[dnVal a] w (RetW (.bool (movB a.f a.cu)) w):=by
 unfold dnVal;obtain ⟨fi,fl,f,cu,rf⟩:=a;simp only;have HR:Hid (movB f cu=(decide (0≤f∧f≤128)&&curB cu)):=rfl;generalize movB f cu=r at *;by_cases h:0≤f∧f≤128
 ·obtain ⟨h1,h2⟩:=h;go_enter Tryz.func128,Tryz.ntmps128;go_wp2_with fail;refine (cursor_any cu _).mono ?_;rintro e w' ⟨rfl,hb⟩;have HB:=Hd (((Below.refl w w).alloc Nr (Obj.cells #[fi,fl,f,cu,rf] 126)).trans (hb.mono b11));clear hb;go_wp2_with fail;go_ret;exact RetW.mk (by rw [HR.out];simp [h1,h2]) HB.out
 ·have HN:=Hd h;have HF:Hid (r=false):=by rw [Hid,HR.out,decide_eq_false h,Bool.false_and]
  clear h;go_enter Tryz.func128,Tryz.ntmps128;go_wp2_with fail
  all_goals first|(exfalso;have:=HN.out;omega)|(go_ret;exact RetW.mk (by rw [HF.out];rfl) ((Below.refl _ w).alloc Nr _))
set_option maxHeartbeats 2000000 in
theorem right_doc (a:Dn) (w:World):Calls Tryz.prog 48 #[dnVal a] w (RetW (.bool (rightD a)) w):=by
 unfold dnVal;obtain ⟨fi,fl,f,cu,rf⟩:=a;simp only;have HR:Hid (rightD ⟨fi,fl,f,cu,rf⟩=decide (0≤fi∧fi<8∧1≤fl∧fl≤7∧fl≠4∧0≤f∧f≤128∧0≤cu∧cu≤1000000)):=by
  show (fixB fi fl&&(decide (0≤f∧f≤128)&&decide (0≤cu∧cu≤1000000)))=_;unfold fixB;rw [←Bool.decide_and,←Bool.decide_and];congr 1
  simp only [and_assoc]
 generalize rightD ⟨fi,fl,f,cu,rf⟩=r at *;by_cases h:0≤fi∧fi<8∧1≤fl∧fl≤7
 ·obtain ⟨h1,h2,h3,h4⟩:=h;rcases fl_cases h3 h4 with rfl|rfl|rfl|rfl|rfl|rfl|rfl
  all_goals
   go_enter Tryz.func48,Tryz.ntmps48;go_wp2_with fail
   all_goals
    go_ret;exact RetW.mk (by rw [HR.out];simp [*];try (first|rfl|decide|omega)) ((Below.refl _ w).alloc Nr _)
 ·have HN:=Hd h;have HF:Hid (r=false):=by rw [Hid,HR.out];exact decide_eq_false (fun hh=>h ⟨hh.1,hh.2.1,hh.2.2.1,hh.2.2.2.1⟩)
  clear h;go_enter Tryz.func48,Tryz.ntmps48;go_wp2_with fail
  all_goals first|(exfalso;have:=HN.out;omega)|(go_ret;exact RetW.mk (by rw [HF.out];rfl) ((Below.refl _ w).alloc Nr _))
end Go.Proofs.YtimhaidiclbnhaaGreat.Des
namespace Go.Proofs
open Go.Shelf
def Tryz.lays105_ren:Go.Shelf.Ren:=⟨fun|105=>141|212=>145|99=>146|165=>147|166=>148|170=>149|169=>150|263=>153|264=>154|206=>155|240=>156|241=>157|276=>160|277=>161|n=>n,fun|9=>9|3=>3|4=>4|20=>20|0=>0|46=>189|109=>190|5=>5|72=>195|76=>199|51=>205|146=>206|53=>88|148=>208|70=>193|37=>68|75=>198|127=>210|164=>212|80=>202|n=>n,fun|n=>n⟩
theorem Tryz.lays105:Go.Proofs.Lays.n105 Tryz.prog Tryz.lays105_ren:={
 mixed:=by kernel_rfl
 f99:=Tryz.func146.trans (congrArg some (by kernel_rfl))
 f105:=Tryz.func141.trans (congrArg some (by kernel_rfl))
 f165:=Tryz.func147.trans (congrArg some (by kernel_rfl))
 f166:=Tryz.func148.trans (congrArg some (by kernel_rfl))
 f169:=Tryz.func150.trans (congrArg some (by kernel_rfl))
 f170:=Tryz.func149.trans (congrArg some (by kernel_rfl))
 f206:=Tryz.func155.trans (congrArg some (by kernel_rfl))
 f212:=Tryz.func145.trans (congrArg some (by kernel_rfl))
 f240:=Tryz.func156.trans (congrArg some (by kernel_rfl))
 f241:=Tryz.func157.trans (congrArg some (by kernel_rfl))
 f263:=Tryz.func153.trans (congrArg some (by kernel_rfl))
 f264:=Tryz.func154.trans (congrArg some (by kernel_rfl))
 f276:=Tryz.func160.trans (congrArg some (by kernel_rfl))
 f277:=Tryz.func161.trans (congrArg some (by kernel_rfl))
 t0:=Tryz.underlying0
 a0:=Tryz.isAgg0
 z0:=Tryz.sizeOf0
 v0:=Tryz.zeroValue0
 t3:=Tryz.underlying3
 a3:=Tryz.isAgg3
 z3:=Tryz.sizeOf3
 v3:=Tryz.zeroValue3
 t4:=Tryz.underlying4
 a4:=Tryz.isAgg4
 z4:=Tryz.sizeOf4
 v4:=Tryz.zeroValue4
 t5:=Tryz.underlying5
 a5:=Tryz.isAgg5
 z5:=Tryz.sizeOf5
 v5:=Tryz.zeroValue5
 t9:=Tryz.underlying9
 a9:=Tryz.isAgg9
 z9:=Tryz.sizeOf9
 v9:=Tryz.zeroValue9
 t20:=Tryz.underlying20
 a20:=Tryz.isAgg20
 z20:=Tryz.sizeOf20
 v20:=Tryz.zeroValue20
 t37:=Tryz.underlying68
 a37:=Tryz.isAgg68
 z37:=Tryz.sizeOf68
 v37:=Tryz.zeroValue68
 t46:=Tryz.underlying189
 a46:=Tryz.isAgg189
 z46:=Tryz.sizeOf189
 v46:=Tryz.zeroValue189
 t51:=Tryz.underlying205
 a51:=Tryz.isAgg205
 z51:=Tryz.sizeOf205
 v51:=Tryz.zeroValue205
 t53:=Tryz.underlying88
 a53:=Tryz.isAgg88
 z53:=Tryz.sizeOf88
 v53:=Tryz.zeroValue88
 t70:=Tryz.underlying193
 a70:=Tryz.isAgg193
 z70:=Tryz.sizeOf193
 v70:=Tryz.zeroValue193
 t72:=Tryz.underlying195
 a72:=Tryz.isAgg195
 z72:=Tryz.sizeOf195
 v72:=Tryz.zeroValue195
 t75:=Tryz.underlying198
 a75:=Tryz.isAgg198
 z75:=Tryz.sizeOf198
 v75:=Tryz.zeroValue198
 t76:=Tryz.underlying199
 a76:=Tryz.isAgg199
 z76:=Tryz.sizeOf199
 v76:=Tryz.zeroValue199
 t109:=Tryz.underlying190
 a109:=Tryz.isAgg190
 z109:=Tryz.sizeOf190
 v109:=Tryz.zeroValue190
 t127:=Tryz.underlying210
 a127:=Tryz.isAgg210
 z127:=Tryz.sizeOf210
 v127:=Tryz.zeroValue210
 t146:=Tryz.underlying206
 a146:=Tryz.isAgg206
 z146:=Tryz.sizeOf206
 v146:=Tryz.zeroValue206
 t148:=Tryz.underlying208
 a148:=Tryz.isAgg208
 z148:=Tryz.sizeOf208
 v148:=Tryz.zeroValue208
 t164:=Tryz.underlying212
 a164:=Tryz.isAgg212
 z164:=Tryz.sizeOf212
 v164:=Tryz.zeroValue212}
theorem Tryz.Builder_Extra_105:Builder.Extra Tryz.prog Tryz.lays105_ren:={
 sizeBuilder:=by kernel_rfl
 liesBuilder:=by kernel_rfl
 t5:=Tryz.underlying5
 a5:=Tryz.isAgg5
 z5:=Tryz.sizeOf5
 v5:=Tryz.zeroValue5
 infoByte:=by kernel_rfl
 cellsByte:=by kernel_rfl
 sizeByte:=by kernel_rfl
 neB5:=by decide}
open Go.RowKit Go.Lib in
theorem Tryz.strings_Repeat (s:ByteArray) (c:Nat) (w:World) (hc:c≤9223372036854775807) (hlen:s.size*c≤140737488355328):
 Calls Tryz.prog 141 #[.string s,.int .i64 c] w fun e w'=>e=.returned (.string ⟨(Lib.repeatL s.data.toList c).toArray⟩)∧Below w.heap.size w w':=Any.strings_Repeat Tryz.lays105 Tryz.Builder_Extra_105 s c w hc hlen
def Tryz.lays107_ren:Go.Shelf.Ren:=⟨fun|107=>115|108=>120|n=>n,fun|28=>22|3=>3|4=>4|0=>0|n=>n,fun|n=>n⟩
theorem Tryz.lays107:Go.Proofs.Lays.n107 Tryz.prog Tryz.lays107_ren:={
 mixed:=by kernel_rfl
 f107:=Tryz.func115.trans (congrArg some (by kernel_rfl))
 f108:=Tryz.func120.trans (congrArg some (by kernel_rfl))
 t0:=Tryz.underlying0
 a0:=Tryz.isAgg0
 z0:=Tryz.sizeOf0
 v0:=Tryz.zeroValue0
 t3:=Tryz.underlying3
 a3:=Tryz.isAgg3
 z3:=Tryz.sizeOf3
 v3:=Tryz.zeroValue3
 t4:=Tryz.underlying4
 a4:=Tryz.isAgg4
 z4:=Tryz.sizeOf4
 v4:=Tryz.zeroValue4
 t28:=Tryz.underlying22
 a28:=Tryz.isAgg22
 z28:=Tryz.sizeOf22
 v28:=Tryz.zeroValue22}
open Go.Lib in
theorem Tryz.slices_Contains_int (b off n c:Nat) (zs:List Int) (x:Int) (w:World) (hz:n≤zs.length) (hbig:n≤9223372036854775807) (hc:∀j,j<zs.length→w.cell? ⟨b,off+j,none⟩=some (.int .i64 (zs.getD j 0))):
 Calls Tryz.prog 115 #[.slice (some ⟨b,off,none⟩) n c,.int .i64 x] w fun e w'=>e=.returned (.bool ((zs.take n).contains x))∧w'=w:=Any.slices_Contains_int Tryz.lays107 b off n c zs x w hz hbig hc
def Tryz.laysNm216_ren:Go.Shelf.Ren:=⟨fun|16=>64|n=>n,fun|24=>47|9=>9|4=>4|n=>n,fun|n=>n⟩
theorem Tryz.laysNm216:Go.Proofs.Lays2.n16 Tryz.prog Tryz.laysNm216_ren:={
 mixed:=by kernel_rfl
 f16:=Tryz.func64.trans (congrArg some (by kernel_rfl))
 t4:=Tryz.underlying4
 a4:=Tryz.isAgg4
 z4:=Tryz.sizeOf4
 v4:=Tryz.zeroValue4
 t9:=Tryz.underlying9
 a9:=Tryz.isAgg9
 z9:=Tryz.sizeOf9
 v9:=Tryz.zeroValue9
 t24:=Tryz.underlying47
 a24:=Tryz.isAgg47
 z24:=Tryz.sizeOf47
 v24:=Tryz.zeroValue47
 i9:=by kernel_rfl}
open Go.RowKit Go.Lib in
theorem Tryz.slices_Clone_string (b off n c:Nat) (zs:List ByteArray) (w:World) (hz:n≤zs.length) (hbig:n*16≤140737488355328) (hc:∀j,j<zs.length→w.cell? ⟨b,off+j,none⟩=some (.string (zs.getD j ByteArray.empty))):
 Calls Tryz.prog 64 #[.slice (some ⟨b,off,none⟩) n c] w fun e w'=>∃v',e=.returned v'∧w'.ownsRow w.heap.size 9 1 v' n ((zs.take n).map (Value.string))∧v'≠.slice none 0 0∧Below w.heap.size w w':=Any.slices_Clone_string Tryz.laysNm216 b off n c zs w hz hbig hc
open Go.RowKit Go.Lib in
theorem Tryz.slices_Clone_string_nil (n c:Nat) (w:World):
 Calls Tryz.prog 64 #[.slice none n c] w fun e w'=>e=.returned (.slice none 0 0)∧w'=w:=Any.slices_Clone_string_nil Tryz.laysNm216 n c w
end Go.Proofs
namespace Go.Proofs.YtimhaidiclbnhaaGreat
open Go
structure Near (ops:Array Oper) (F:Act) (l:Array Bool) (a:Act):Prop where
 size:a.tmps.size=F.tmps.size
 defers:a.defers=F.defers
 same:∀t,(∀j o,ops[j]? =some o→o.dst=some t→l.getD j false=true)→a.tmps.getD t undef=F.tmps.getD t undef
def calmOk (ops:Array Oper):Bool:=
 Region.noSelect ops&&(List.range ops.size).all fun i=>match ops[i]? with
  | some o => (o.looksAt ops).all (fun t=>(List.range ops.size).all fun j=>match ops[j]? with
   |some p=>p.dst !=some t||o.after.any (fun e=>Region.binds .any e&&e.on==j)
   |none=>true)&&o.after.all (fun e=>decide (e.on<i))
  |none=>true
theorem calm_spec {ops:Array Oper} (h:calmOk ops=true) {i:Nat} {o:Oper} (hi:ops[i]? =some o):
 (∀t∈o.looksAt ops,∀j p,ops[j]? =some p→p.dst=some t→∃e∈o.after,Region.binds .any e=true∧e.on=j)∧∀e∈o.after,e.on<i:=by
 unfold calmOk at h;simp only [Bool.and_eq_true,List.all_eq_true,List.mem_range] at h;have hlt:i<ops.size:=(Array.getElem?_eq_some_iff.1 hi).1;have h1:=h.2 i hlt;rw [hi] at h1;simp only [Bool.and_eq_true,List.all_eq_true,List.mem_range,Array.all_eq_true_iff_forall_mem,decide_eq_true_eq] at h1;refine ⟨fun t ht j p hj hd=>?_,h1.2⟩;have h2:=h1.1 t ht j (Array.getElem?_eq_some_iff.1 hj).1;rw [hj] at h2;simp only [hd,bne_self_eq_false,Bool.false_or,Array.any_eq_true] at h2;obtain ⟨k,hk,h3⟩:=h2;simp only [Bool.and_eq_true,beq_iff_eq] at h3;exact ⟨_,Array.getElem_mem hk,h3.1,h3.2⟩
theorem calm_noSelect {ops:Array Oper} (h:calmOk ops=true):Region.noSelect ops=true:=by
 unfold calmOk at h;simp only [Bool.and_eq_true] at h;exact h.1
section
variable {P:Program} {ops:Array Oper} {F:Act} {l:Array Bool} {a:Act} {i:Nat} {o:Oper}
theorem Near.looks (hn:Near ops F l a) (hc:calmOk ops=true) (hi:ops[i]? =some o) (hr:∀e∈o.after,Region.binds .any e=true→l.getD e.on false=true):
 ∀t∈o.looksAt ops,a.tmps.getD t undef=F.tmps.getD t undef:=by
 intro t ht;refine hn.same t (fun j p hj hd=>?_);obtain ⟨e,he,hb,rfl⟩:=(calm_spec hc hi).1 t ht j p hj hd;exact hr e he hb
theorem Near.exec (hn:Near ops F l a) (hc:calmOk ops=true) (hi:ops[i]? =some o) (hr:∀e∈o.after,Region.binds .any e=true→l.getD e.on false=true):
 execOp a.eval o=execOp F.eval o:=
 execOp_congr o (fun cs b=>Region.noSelect_spec (calm_noSelect hc) i o cs b hi) fun x hx=>by
  cases x with
  |tmp t=>exact hn.looks hc hi hr t (List.mem_append_left _ (List.mem_filterMap.2 ⟨.tmp t,by simpa using hx,rfl⟩))
  | _=>rfl
theorem getElem_of_getD {xs ys:Array Value} (hs:xs.size=ys.size) {t:Nat} (h:xs.getD t undef=ys.getD t undef):xs[t]? =ys[t]?:=by
 rcases Nat.lt_or_ge t xs.size with h1|h1
 ·have h2:t<ys.size:=b10;simp [h1,h2] at h ⊢;exact h
 ·rw [Array.getElem?_eq_none h1,Array.getElem?_eq_none b10]
theorem put_size (a:Act) (d:Option Tmp) (v:Value):(a.put d v).tmps.size=a.tmps.size:=by
 cases d<;>simp [Act.put]
theorem put_defers' (a:Act) (d:Option Tmp) (v:Value):(a.put d v).defers=a.defers:=by
 cases d<;>rfl
theorem put_other (a:Act) {d:Option Tmp} (v:Value) {t:Nat} (h:d≠some t):(a.put d v).tmps.getD t undef=a.tmps.getD t undef:=by
 cases d with
 |none=>rfl
 |some d=>
  have hne:d≠t:=fun e=>h (e▸rfl);simp [Act.put,Array.getElem?_setIfInBounds_ne hne]
def Closed (ops:Array Oper) (l:Array Bool):Prop:=∀j o,ops[j]? =some o→l.getD j false=true→∀e∈o.after,Region.binds .any e=true→l.getD e.on false=true
def unlisted (l:Array Bool):Nat:=(l.toList.filter (fun b=>!b)).length
theorem unlisted_set {l:Array Bool} {i:Nat} (h:l.getD i true=false):unlisted (l.setIfInBounds i true)<unlisted l:=by
 unfold unlisted;have hi:i<l.size:=by
  rcases Nat.lt_or_ge i l.size with h'|h'
  ·exact h'
  ·simp [Array.getElem?_eq_none h'] at h
 have hv:l.toList[i]? =some false:=by
  simp [hi] at h;simp [hi,h]
 rw [Array.toList_setIfInBounds];generalize l.toList=L at hv;clear h hi
 induction L generalizing i with
 |nil=>simp at hv
 |cons b r ih=>
  cases i with
  |zero=>simp at hv;subst hv;simp
  |succ i=>
   have:=ih (i:=i) (by simpa using hv);cases b<;>simp<;>omega
theorem all_up (hc:calmOk ops=true) (hl:l.size=ops.size) (hr:Region.ready .any ops l=[]):∀j,j<ops.size→l.getD j false=true:=by
 intro j
 induction j using Nat.strongRecOn with
 | _ j ih=>
  intro hj;cases hb:l.getD j false with
  |true=>rfl
  |false=>
   have hmem:j∈Region.ready .any ops l:=by
    refine mem_ready.2 ⟨?_,ops[j],Array.getElem?_eq_getElem hj,fun e he _=>?_⟩
    ·have hjl:j<l.size:=b10;simp [hjl] at hb ⊢;exact hb
    ·have:=(calm_spec hc (Array.getElem?_eq_getElem hj)).2 e he;exact ih e.on this b10
   rw [hr] at hmem;cases hmem
def putAll:List Oper→List Value→Act→Act
 |o::os,v::vs,a=>putAll os vs (a.put o.dst v)
 | _,_,a=>a
theorem putAll_same:∀(os:List Oper) (vs:List Value) (a:Act),(putAll os vs a).tmps.size=a.tmps.size∧(putAll os vs a).defers=a.defers∧∀t,(∀o∈os,o.dst≠some t)→(putAll os vs a).tmps.getD t undef=a.tmps.getD t undef
 |[],_,a=>⟨rfl,rfl,fun _ _=>rfl⟩
 |o::os,[],a=>⟨rfl,rfl,fun _ _=>rfl⟩
 |o::os,v::vs,a=>by
  obtain ⟨h1,h2,h3⟩:=putAll_same os vs (a.put o.dst v);refine ⟨h1.trans (put_size _ _ _),h2.trans (put_defers' _ _ _),fun t ht=>?_⟩;exact (h3 t (fun p hp=>ht p (by simp [hp]))).trans (put_other _ _ (ht o b11))
end
end Go.Proofs.YtimhaidiclbnhaaGreat
