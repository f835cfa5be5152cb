import Derived.Test.YtimhaidiclbnhaaGreatP31
set_option linter.unusedSimpArgs false
set_option linter.unusedVariables false
set_option maxRecDepth 100000
open Go.ChangeShapes Go.WideShapes Go.ChangeAt Go.RowKit
namespace Go.Proofs.YtimhaidiclbnhaaGreat.Ver
open Des (Dv De Dn DIn DBlk DAns Vi At RowOf ints DSz)
open Ara (Ar ARow)
open Con (StrRow)
def Ev.zero:Ev:=⟨0,0,0,0,0,0,0,0,⟨#[]⟩⟩
def runS (s:St) (xs:List Ev):Nat→St×List (Int×Int)
 |0=>(s,[])
 |k+1=>((takeS (runS s xs k).1 (k:Int) (xs.getD k Ev.zero)).2,(runS s xs k).2++if (takeS (runS s xs k).1 (k:Int) (xs.getD k Ev.zero)).1=0 then [] else [((k:Int),(takeS (runS s xs k).1 (k:Int) (xs.getD k Ev.zero)).1)])
def fnd (l:List (Int×Int)):List Value:=l.flatMap fun p=>[.int .i64 p.1,.int .i64 p.2]
theorem fnd_snoc (l:List (Int×Int)) (a b:Int):fnd (l++[(a,b)])=fnd l++[.int .i64 a,.int .i64 b]:=by simp [fnd]
def EvRow (W:World) (v:Value) (xs:List Ev):Prop:=
 (v=.slice none 0 0∧xs=[])∨∃g o c,v=.slice (some ⟨g,o,none⟩) xs.length c∧g<W.heap.size∧xs.length≤c∧c≤maxLen∧∀i,i<xs.length→∀j u,(xs.getD i Ev.zero).cells[j]? =some u→W.cell? ⟨g,o+i*9+j,none⟩=some u
theorem EvRow.below {W W':World} {v:Value} {xs:List Ev} (h:EvRow W v xs) (hb:Below W W W'):EvRow W' v xs:=by
 rcases h with h|⟨g,o,c,h1,h2,h3,h4,h5⟩
 ·exact Or.inl h
 ·exact Or.inr ⟨g,o,c,h1,Nat.lt_of_lt_of_le h2 hb.size,h3,h4,fun i hi j u hu=>(hb.cell (p:=(g (o+i*9+j))) h2).trans (h5 i hi j u hu)⟩
theorem run_keep (s:St) (xs:List Ev) (k:Nat):(runS s xs k).1.scr=s.scr∧(runS s xs k).1.fs.length=s.fs.length:=by
 induction k with
 |zero=>exact ⟨rfl,rfl⟩
 |succ k ih=>
  obtain ⟨h1,h2⟩:=take_keep (runS s xs k).1 (k:Int) (xs.getD k Ev.zero);exact ⟨h1.trans ih.1,h2.trans ih.2⟩
theorem run_ok {s:St} (h:Ok 0 s) (xs:List Ev) (k:Nat):Ok k (runS s xs k).1:=by
 induction k with
 |zero=>exact h
 |succ k ih=>exact ok_take ih _ _
theorem run_len (s:St) (xs:List Ev) (k:Nat):(runS s xs k).2.length≤k:=by
 induction k with
 |zero=>exact Nat.le_refl _
 |succ k ih=>
  show ((runS s xs k).2++_).length≤k+1;rw [List.length_append];split<;>simp<;>omega
def OpsOK (scr:List (List Opr)):Prop:=∀p i,p<scr.length→i<(scr.getD p []).length→1≤((scr.getD p []).getD i Opr.zero).kd∧((scr.getD p []).getD i Opr.zero).kd≤14∧((scr.getD p []).getD i Opr.zero).off≤1000000∧((scr.getD p []).getD i Opr.zero).dat.size≤1000
theorem repl_get {n j:Nat}:(List.replicate n (0:Int)).getD j 0=0:=by
 by_cases h:j<n<;>simp [List.getD,h]
theorem repl_nil {α:Type} {n j:Nat}:(List.replicate n ([]:List α)).getD j []=[]:=by
 by_cases h:j<n<;>simp [List.getD,h]
theorem ok_beg (scr:List (List Opr)) (n:Nat) (lst:List ByteArray) (hn:n≤1000) (hs:1≤scr.length∧scr.length≤8) (hsz:∀s,s∈lst→s.size≤128) (ho:OpsOK scr):Ok 0 (begS scr n lst):=by
 have hf:(begS scr n lst).fs.length=n:=begF_len n lst;have hh:∀i,i<n→((begS scr n lst).h.getD i ([],0))=([(begF n lst).getD i ⟨#[]⟩],0):=fun i hi=>by
  show (((List.range n).map fun i=>if i<n then ([(begF n lst).getD i ⟨#[]⟩],(0:Int)) else ([],0)).getD i ([],0))=_;simp [List.getD,hi]
 refine ⟨?_,?_,?_,?_,?_,?_,fun i hi=>?_,fun i hi=>?_,fun i hi z hz=>?_,fun y hy=>?_,?_,?_,fun p=>?_,fun p a ha=>?_,?_,?_,fun p=>?_,fun f=>?_,ho⟩
 ·show Des.Rt (Des.newD (scr.length:Int));refine Des.rt_new ?_;unfold Des.newE;rw [if_pos b10]
 ·rw [hf];exact hn
 ·rw [hf];exact List.length_replicate
 ·rw [hf];exact List.length_replicate
 ·rw [hf];show ((List.range n).map _).length=n;simp
 ·rw [hf];exact List.length_replicate
 ·have hi:i<n:=by have:i<((List.range n).map fun i=>if i<n then ([(begF n lst).getD i ⟨#[]⟩],(0:Int)) else ([],0)).length:=hi;simpa using this
  rw [hh i hi];simp
 ·show ((List.replicate n ([]:List Int)).getD i []).length≤0;rw [repl_nil];simp
 ·have hz:z∈(List.replicate n ([]:List Int)).getD i []:=hz;rw [repl_nil] at hz;cases hz
 ·have hy:y∈(List.range n).map fun i=>lst.getD i ⟨#[]⟩:=hy;obtain ⟨i,_,rfl⟩:=List.mem_map.1 hy;exact getD_mem0 fun y hy=>Nat.le_trans (hsz y hy) b10
 ·show scr.length≤1000;omega
 ·exact List.length_replicate
 ·show ((List.replicate scr.length ([]:List Ar)).getD p []).length≤100;rw [repl_nil];simp
 ·have ha:a∈(List.replicate scr.length ([]:List Ar)).getD p []:=ha;rw [repl_nil] at ha;cases ha
 ·exact List.length_replicate
 ·exact List.length_replicate
 ·show 0≤(List.replicate scr.length (0:Int)).getD p 0∧(List.replicate scr.length (0:Int)).getD p 0≤((0:Nat):Int);rw [repl_get];simp
 ·show 0≤(List.replicate n (0:Int)).getD f 0∧(List.replicate n (0:Int)).getD f 0≤1000000;rw [repl_get];omega
open Des (Dv De Dn At ints numE numV lookV)
structure Okr (K:Nat) (s:St):Prop where
 tl:s.d.t.length=s.scr.length
 n1:1≤s.fs.length
 df:∀x,x∈s.d.o→x.fi<(s.fs.length:Int)
 sz:∀y,y∈s.fs→y.size≤128
 fa:∀f,s.fa.getD f 0≤(K:Int)
theorem Okr.more {K K':Nat} {s:St} (h:Okr K s) (hk:K≤K'):Okr K' s:={h with fa:=fun f=>by have:=h.fa f;omega}
theorem Okr.get {K:Nat} {s:St} (h:Okr K s) (f:Nat):(s.fs.getD f ⟨#[]⟩).size≤128:=by
 by_cases hi:f<s.fs.length
 ·rw [show s.fs.getD f ⟨#[]⟩=s.fs[f] from by simp [List.getD,hi]];exact h.sz _ (List.getElem_mem hi)
 ·rw [show s.fs.getD f ⟨#[]⟩=⟨#[]⟩ from by simp [List.getD,hi]];exact Nat.zero_le _
theorem Okr.ch {K:Nat} {s:St} (h:Okr K s) (f:Nat) {d:ByteArray} (hd:d.size≤128):Okr K (chS s f d):=by
 unfold chS;refine {h with n1:=?_,df:=?_,sz:=?_}
 ·show 1≤(s.fs.set f d).length;rw [List.length_set];exact h.n1
 ·intro x hx;show x.fi<((s.fs.set f d).length:Int);rw [List.length_set];exact h.df x hx
 ·intro y hy;rcases List.mem_or_eq_of_mem_set (show y∈s.fs.set f d from hy) with h1|h1
  ·exact h.sz y h1
  ·rw [h1];exact hd
theorem Okr.dd {K:Nat} {s:St} (h:Okr K s) {d:De} (ht:d.t.length=s.d.t.length) (hd:∀x,x∈d.o→x.fi<(s.fs.length:Int)):Okr K {s with d:=d}:={h with tl:=ht.trans h.tl,df:=hd}
theorem Okr.sy {K:Nat} {s:St} (h:Okr K s) (f:Nat) (x:Ev):Okr K (syS s f x):=by
 unfold syS;split
 ·exact {h with}
 ·exact h
theorem mem_trimR:∀{o:List Dn} {x:Dn},x∈Des.trimR o→x∈o
 |[],_,h=>h
 |a::r,x,h=>by
  unfold Des.trimR at h;split at h
  ·exact List.mem_cons_of_mem _ (mem_trimR h)
  ·exact h
theorem mem_trim {o:List Dn} {x:Dn} (h:x∈Des.trim o):x∈o:=by
 unfold Des.trim at h;exact List.mem_reverse.1 (mem_trimR (List.mem_reverse.1 h))
theorem getD_fi {o:List Dn} {n:Int} (h:∀x,x∈o→x.fi<n) (hn:0<n) (i:Nat):(o.getD i Dn.zero).fi<n:=by
 by_cases hi:i<o.length
 ·rw [show o.getD i Dn.zero=o[i] from by simp [List.getD,hi]];exact h _ (List.getElem_mem hi)
 ·rw [show o.getD i Dn.zero=Dn.zero from by simp [List.getD,hi]];exact hn
theorem mem_bump {o:List Dn} {n:Nat} {k z:Int} {x:Dn} (h:∀x,x∈o→x.fi<z) (hz:0<z) (hx:x∈Des.bumpL o n k):x.fi<z:=by
 unfold Des.bumpL at hx;rcases List.mem_or_eq_of_mem_set hx with h1|h1
 ·exact h x h1
 ·rw [h1];exact getD_fi h hz n
theorem tl_open {d:De} {p fi fl c:Int}:(Des.openD d p fi fl c).t.length=d.t.length:=by
 unfold Des.openD;split
 ·exact Des.setE_len _ _ _ _
 ·rfl
theorem tl_dup {d:De} {p f:Int}:(Des.dupD d p f).t.length=d.t.length:=by
 unfold Des.dupD;split
 ·exact Des.setE_len _ _ _ _
 ·rfl
theorem tl_close {d:De} {p f:Int}:(Des.closeD d p f).t.length=d.t.length:=by
 unfold Des.closeD;split
 ·exact Des.setE_len _ _ _ _
 ·rfl
theorem tl_upd {d:De} {n f c:Int}:(Des.updD d n f c).t.length=d.t.length:=by
 unfold Des.updD;split<;>rfl
theorem df_open {d:De} {p fi fl c z:Int} (h:∀x,x∈d.o→x.fi<z) (hf:fi<z):∀x,x∈(Des.openD d p fi fl c).o→x.fi<z:=by
 intro x hx;unfold Des.openD at hx;split at hx
 ·simp only [Des.putD] at hx;split at hx
  ·rcases List.mem_append.1 hx with h1|h1
   ·exact h x h1
   ·rw [List.mem_singleton.1 h1];exact hf
  ·rcases List.mem_or_eq_of_mem_set hx with h1|h1
   ·exact h x h1
   ·rw [h1];exact hf
 ·exact h x hx
theorem df_dup {d:De} {p f z:Int} (h:∀x,x∈d.o→x.fi<z) (hz:0<z):∀x,x∈(Des.dupD d p f).o→x.fi<z:=by
 intro x hx;unfold Des.dupD at hx;split at hx
 ·exact mem_bump h hz hx
 ·exact h x hx
theorem df_close {d:De} {p f z:Int} (h:∀x,x∈d.o→x.fi<z) (hz:0<z):∀x,x∈(Des.closeD d p f).o→x.fi<z:=by
 intro x hx;unfold Des.closeD at hx;split at hx
 ·simp only at hx;split at hx
  ·rcases List.mem_or_eq_of_mem_set (mem_trim hx) with h1|h1
   ·exact h x h1
   ·rw [h1];exact hz
  ·exact mem_bump h hz hx
 ·exact h x hx
theorem df_upd {d:De} {n f c z:Int} (h:∀x,x∈d.o→x.fi<z) (hz:0<z):∀x,x∈(Des.updD d n f c).o→x.fi<z:=by
 intro x hx;unfold Des.updD at hx;split at hx
 ·rcases List.mem_or_eq_of_mem_set hx with h1|h1
  ·exact h x h1
  ·rw [h1];exact getD_fi h hz n.toNat
 ·exact h x hx
theorem write_128 {s b:ByteArray} {o:Int} (h:s.size≤128):(Con.writeV s o b).1.size≤128:=by
 unfold Con.writeV;split
 ·exact h
 split
 ·exact h
 split
 ·exact h
 ·rename_i h1 h2 h3;rw [Con.badB_iff] at h2;show (Con.putS s o.toNat b).size≤128;rw [Con.putS_size];omega
theorem trunc_128 {s:ByteArray} {o:Int} (h:s.size≤128):(Con.truncV s o).1.size≤128:=by
 unfold Con.truncV;split
 ·exact h
 split
 ·exact h
 ·rename_i h1 h2;rw [Con.badB_iff] at h2;show (Con.sizedS s o.toNat).size≤128;rw [Con.sizedS_size];omega
theorem punch_128 {s:ByteArray} {o n:Int} (h:s.size≤128):(Con.punchV s o n).1.size≤128:=by
 unfold Con.punchV;split
 ·exact h
 split
 ·exact h
 split
 ·exact h
 ·rename_i h1 h2 h3;rw [Con.badB_iff] at h2;show (Con.putS s o.toNat _).size≤128;rw [Con.putS_size,Con.sizedS_size];omega
namespace Awxe
theorem km12 {p : Prop} (h:p:=by
 split
 ·exact h
 split
 ·exact h
 split
 ·exact h
 ·exact (h.dd tl_upd (df_upd h.df hz)).ch _ (write_128 (hg _))):p:=h
end Awxe
open Awxe in
theorem Okr.plan {K:Nat} {s:St} (h:Okr K s) (p:Nat) (o:Opr) (x:Ev):Okr K (planR s p o x).2:=by
 have hz:(0:Int)<(s.fs.length:Int):=by have:=h.n1;omega
 have hg:=h.get;unfold planR;split
 ·unfold openedR;split
  ·exact h
  split
  ·exact h.dd tl_open (df_open h.df b10)
  ·exact h
 ·unfold closedR;split
  ·exact h.dd tl_close (df_close h.df hz)
  ·exact h
 ·unfold readR;split
  ·exact h
  split
  ·exact h
  ·exact h.dd tl_upd (df_upd h.df hz)
 ·unfold writeR;exact cm12
 ·unfold seekR;split
  ·exact h
  split
  ·exact h
  ·exact h.dd tl_upd (df_upd h.df hz)
 ·unfold truncateR;split
  ·exact h
  split
  ·exact h
  ·exact h.ch _ (trunc_128 (hg _))
 ·unfold punchR;split
  ·exact h
  split
  ·exact h
  ·exact h.ch _ (punch_128 (hg _))
 ·unfold syncR;split
  ·exact h
  ·exact (h.dd tl_upd (df_upd h.df hz)).sy _ _
 ·unfold mappedR;split
  ·exact h
  split
  ·exact h
  split
  ·exact h
  split
  ·exact h
  split
  ·exact h
  ·exact {h with}
 ·unfold unmapR;split
  ·exact h
  ·exact {h with}
 ·unfold loadR;split
  ·exact h
  split<;>exact h
 ·unfold storeR;split
  ·exact h
  split
  ·exact h
  split
  ·exact h
  split
  ·exact h
  ·exact h.ch _ (write_128 (hg _))
 ·unfold dupR;split
  ·exact h.dd tl_dup (df_dup h.df hz)
  ·exact h
 ·exact h
theorem Okr.ord {K:Nat} {s:St} (h:Okr K s) (x:Ev):Okr K (ordS (stS s) x):=by
 unfold ordS;split<;>exact {h with}
theorem Okr.fail {K:Nat} {s:St} (h:Okr K s) (x:Ev):Okr (K+1) (failS s x):=by
 refine {h with fa:=fun f=>?_};show (s.fa.set _ _).getD f 0≤((K+1:Nat):Int);rw [getD_set0];have:=h.fa x.fi.toNat;have:=h.fa f;split<;>omega
theorem Okr.take {K:Nat} {s:St} (h:Okr K s) (i:Int) (x:Ev):Okr (K+1) (takeS s i x).2:=by
 have h1:=h.ord x;unfold takeS;split
 ·exact h1.fail x
 ·show Okr (K+1) (if _ then _ else _);split
  ·exact (h1.plan _ _ _).more b10
  ·exact h1.more b10
theorem Okr.run {s:St} (h:Okr 0 s) (xs:List Ev) (k:Nat):Okr k (runS s xs k).1:=by
 induction k with
 |zero=>exact h
 |succ k ih=>exact ih.take _ _
theorem okr_beg (scr:List (List Opr)) (n:Nat) (lst:List ByteArray) (hn:1≤n) (hs:1≤scr.length∧scr.length≤8) (hsz:∀s,s∈lst→s.size≤128):Okr 0 (begS scr n lst):=by
 have hf:(begS scr n lst).fs.length=n:=begF_len n lst;have hd:(begS scr n lst).d=⟨[],List.replicate scr.length (List.replicate 16 0)⟩:=by
  show Des.newD (scr.length:Int)=_;unfold Des.newD;rw [if_pos b10,Int.toNat_natCast]
 refine ⟨?_,by rw [hf];exact hn,?_,?_,fun f=>?_⟩
 ·rw [hd];exact List.length_replicate
 ·rw [hd];intro x hx;cases hx
 ·intro y hy;have hy:y∈begF n lst:=hy;unfold begF at hy;obtain ⟨i,hi,rfl⟩:=List.mem_map.1 hy;by_cases h:i<lst.length
  ·rw [show lst.getD i ⟨#[]⟩=lst[i] from by simp [List.getD,h]];exact hsz _ (List.getElem_mem h)
  ·rw [show lst.getD i ⟨#[]⟩=⟨#[]⟩ from by simp [List.getD,h]];exact Nat.zero_le _
 ·show (List.replicate n (0:Int)).getD f 0≤_;rw [repl_get];omega
section
variable {K:Nat} {s:St} {p:Nat} {o:Opr}
theorem num4 (hr:Des.Rt s.d) (h:Okr K s) (hp:p<s.scr.length) (f:Int):numE s.d p f=0∨numE s.d p f=4:=by
 have h0:Des.procV s.d p=0:=by
  unfold Des.procV;have:=h.tl;rw [if_neg (by rw [Des.rt_check hr];simp),if_neg b10]
 unfold Des.numE;rw [if_neg (by rw [h0];simp)];split
 ·exact Or.inr rfl
 ·exact Or.inl rfl
theorem lk_num (h:Okr K s) (hn:numE s.d p o.fd=0) (m:Int):lkE s p o.fd m=if andV (lookV s.d p o.fd).fl m≠m then 13 else 0:=by
 have hfi:(lookV s.d p o.fd).fi<(s.fs.length:Int):=by
  unfold Des.lookV;rw [if_pos hn];exact getD_fi h.df (by have:=h.n1;omega) _
 unfold lkE;rw [if_neg (by rw [hn];simp),if_neg b10]
theorem and_zero (a:Int):andV a 0=0:=by
 unfold andV bits;simp [BitVec.and_zero];decide
theorem no4:(4:Int)≠0:=by decide
theorem no13:(13:Int)≠0:=by decide
theorem yes0:¬(0:Int)≠0:=by decide
theorem look_r (hr:Des.Rt s.d) (h:Okr K s) (hn:numE s.d p o.fd=0):Des.rightD (lookV s.d p o.fd)=true∧∃f:Nat,(lookV s.d p o.fd).fi=(f:Int)∧f<s.fs.length:=by
 have h0:lkE s p o.fd 0=0:=by
  rw [lk_num h hn,if_neg];rw [and_zero];simp
 exact (lk_zero h0 hr).2.2
theorem fl_r {D:Dn} (h:Des.rightD D=true):1≤D.fl∧D.fl≤7:=by
 unfold Des.rightD Des.fixB at h;rw [Bool.and_eq_true] at h;have:=of_decide_eq_true h.1;omega
theorem f_r {D:Dn} (h:Des.rightD D=true):0≤D.f∧D.f≤128∧0≤D.cu∧D.cu≤1000000:=by
 unfold Des.rightD Des.movB Des.curB at h;rw [Bool.and_eq_true,Bool.and_eq_true] at h;have h1:=of_decide_eq_true h.2.1;have h2:=of_decide_eq_true h.2.2;omega
theorem and_flag {a:Int} (h1:1≤a) (h2:a≤7):(andV a 1≠1↔andV a 1=0)∧(andV a 2≠2↔andV a 2=0):=by
 have:a=1∨a=2∨a=3∨a=4∨a=5∨a=6∨a=7:=b10;rcases this with rfl|rfl|rfl|rfl|rfl|rfl|rfl<;>decide
theorem close_eq (hr:Des.Rt s.d) (h:Okr K s) (hp:p<s.scr.length):closedR s p o=if numE s.d p o.fd≠0 then (badR 4,s) else (⟨0,0,⟨#[]⟩⟩,{s with d:=Des.closeD s.d p o.fd}):=by
 unfold closedR;rcases num4 hr h hp o.fd with h1|h1<;>simp [h1]
theorem read_eq (hr:Des.Rt s.d) (h:Okr K s) (hp:p<s.scr.length):readR s p o=if numE s.d p o.fd≠0 then (badR 4,s) else if andV (lookV s.d p o.fd).fl 1=0 then (badR 13,s) else if o.len<0∨64<o.len then (badR 2,s) else (⟨0,((Con.readV (s.fs.getD (lookV s.d p o.fd).fi.toNat ⟨#[]⟩) (lookV s.d p o.fd).f o.len).1.size:Int),(Con.readV (s.fs.getD (lookV s.d p o.fd).fi.toNat ⟨#[]⟩) (lookV s.d p o.fd).f o.len).1⟩,{s with d:=Des.updD s.d (numV s.d p o.fd) ((lookV s.d p o.fd).f+((Con.readV (s.fs.getD (lookV s.d p o.fd).fi.toNat ⟨#[]⟩) (lookV s.d p o.fd).f o.len).1.size:Int)) (lookV s.d p o.fd).cu}):=by
 unfold readR;rcases num4 hr h hp o.fd with h1|h1
 ·rw [if_neg (show ¬numE s.d p o.fd≠0 by rw [h1];simp)];have hlk:=lk_num (p:=p) h h1;obtain ⟨hl,_⟩:=look_r hr h h1;obtain ⟨a1,a2⟩:=fl_r hl;have hf:=(and_flag a1 a2).1;by_cases hz:andV (lookV s.d p o.fd).fl 1=0
  ·rw [if_pos hz,hlk,if_pos (hf.2 hz),if_pos no13]
  ·rw [if_neg hz,hlk,if_neg (fun e=>hz (hf.1 e)),if_neg yes0]
 ·exact cl86
def atV (s:St) (p:Int) (o:Opr):Int:=if andV (lookV s.d p o.fd).fl 4≠0 then ((s.fs.getD (lookV s.d p o.fd).fi.toNat ⟨#[]⟩).size:Int) else (lookV s.d p o.fd).f
theorem write_eq (hr:Des.Rt s.d) (h:Okr K s) (hp:p<s.scr.length):writeR s p o=if numE s.d p o.fd≠0 then (badR 4,s) else if andV (lookV s.d p o.fd).fl 2=0 then (badR 13,s) else if 128-atV s p o<(o.dat.size:Int) then (badR 2,s) else if o.dat.size=0 then (⟨0,(o.dat.size:Int),⟨#[]⟩⟩,s) else (⟨0,(o.dat.size:Int),⟨#[]⟩⟩,chS {s with d:=Des.updD s.d (numV s.d p o.fd) (atV s p o+(o.dat.size:Int)) (lookV s.d p o.fd).cu} (lookV s.d p o.fd).fi.toNat (Con.writeV (s.fs.getD (lookV s.d p o.fd).fi.toNat ⟨#[]⟩) (atV s p o) o.dat).1):=by
 unfold writeR;rcases num4 hr h hp o.fd with h1|h1
 ·rw [if_neg (show ¬numE s.d p o.fd≠0 by rw [h1];simp)];have hlk:=lk_num (p:=p) h h1;obtain ⟨hl,_⟩:=look_r hr h h1;obtain ⟨a1,a2⟩:=fl_r hl;obtain ⟨b1,b2,_⟩:=f_r hl;have hf:=(and_flag a1 a2).2;have hg:=h.get (lookV s.d p o.fd).fi.toNat;by_cases hz:andV (lookV s.d p o.fd).fl 2=0
  ·rw [if_pos hz,hlk,if_pos (hf.2 hz),if_pos no13]
  ·rw [if_neg hz,hlk,if_neg (fun e=>hz (hf.1 e)),if_neg yes0];unfold atV;generalize s.fs.getD (lookV s.d p o.fd).fi.toNat ⟨#[]⟩=sd at *;have hlong:¬Con.longB sd=true:=by rw [Con.longB_iff];omega
   by_cases hd:o.dat.size=0
   ·have e1:(if andV (lookV s.d p o.fd).fl 4≠0∧¬o.dat.size=0 then (sd.size:Int) else (lookV s.d p o.fd).f)=(lookV s.d p o.fd).f:=if_neg (fun e=>e.2 hd);have e2:¬128-(if andV (lookV s.d p o.fd).fl 4≠0 then (sd.size:Int) else (lookV s.d p o.fd).f)<(o.dat.size:Int):=by split<;>omega
    have e3:(Con.writeV sd (lookV s.d p o.fd).f o.dat).2=0:=by
     unfold Con.writeV;rw [if_neg hlong,if_neg b77,if_pos hd]
    rw [e1,if_neg e2,if_pos hd,if_pos hd,if_neg (show ¬(Con.writeV sd (lookV s.d p o.fd).f o.dat).2≠0 by rw [e3];simp),hd];rfl
   ·have e1:(if andV (lookV s.d p o.fd).fl 4≠0∧¬o.dat.size=0 then (sd.size:Int) else (lookV s.d p o.fd).f)=(if andV (lookV s.d p o.fd).fl 4≠0 then (sd.size:Int) else (lookV s.d p o.fd).f):=by
     by_cases h4:andV (lookV s.d p o.fd).fl 4≠0
     ·rw [if_pos h4,if_pos ⟨h4,hd⟩]
     ·rw [if_neg h4,if_neg (fun e=>h4 e.1)]
    rw [e1];have e4:0≤(if andV (lookV s.d p o.fd).fl 4≠0 then (sd.size:Int) else (lookV s.d p o.fd).f)∧(if andV (lookV s.d p o.fd).fl 4≠0 then (sd.size:Int) else (lookV s.d p o.fd).f)≤128:=by split<;>omega
    generalize (if andV (lookV s.d p o.fd).fl 4≠0 then (sd.size:Int) else (lookV s.d p o.fd).f)=q at *;by_cases hb:128-q<(o.dat.size:Int)
    ·have e5:(Con.writeV sd q o.dat).2=2:=by
      unfold Con.writeV;rw [if_neg hlong,if_pos (Or.inr hb)]
     rw [if_pos hb,if_pos (show (Con.writeV sd q o.dat).2≠0 by rw [e5];decide),e5]
    ·have e5:(Con.writeV sd q o.dat).2=0:=by
      unfold Con.writeV;rw [if_neg hlong,if_neg b77,if_neg hd]
     rw [if_neg hb,if_neg (show ¬(Con.writeV sd q o.dat).2≠0 by rw [e5];simp),if_neg hd,if_neg hd]
 ·exact cl50
theorem seek_eq (hr:Des.Rt s.d) (h:Okr K s) (hp:p<s.scr.length):seekR s p o=if numE s.d p o.fd≠0 then (badR 4,s) else if o.off<0∨128<o.off then (badR 2,s) else (⟨0,0,⟨#[]⟩⟩,{s with d:=Des.updD s.d (numV s.d p o.fd) o.off (lookV s.d p o.fd).cu}):=by
 unfold seekR;rcases num4 hr h hp o.fd with h1|h1
 ·rw [lk_num h h1,and_zero,if_neg b11,if_neg (show ¬numE s.d p o.fd≠0 by rw [h1];simp)];obtain ⟨hl,_⟩:=look_r hr h h1;obtain ⟨b1,b2,b3,b4⟩:=f_r hl;obtain ⟨k,j,q,e1,e2,hk,hj,hq,hn,_,hpos⟩:=Des.num_ref h1;have hrf:¬(s.d.o.getD q Dn.zero).rf=0:=by rw [hr.rf q hq];omega
  have hu:Des.updE s.d (numV s.d p o.fd) o.off (lookV s.d p o.fd).cu=if o.off<0∨128<o.off then 2 else 0:=by
   unfold Des.updE;rw [if_neg (by rw [Des.rt_check hr];simp),hn,Int.toNat_natCast,if_neg (by intro e;rcases e with e|e|e<;>first|omega|exact hrf e)];unfold Des.movB Des.curB;by_cases hc:o.off<0∨128<o.off
   ·rw [if_pos hc,if_pos];rw [decide_eq_false b10];rfl
   ·rw [if_neg hc,if_neg];rw [decide_eq_true b10,decide_eq_true b10];decide
  rw [hu];by_cases hc:o.off<0∨128<o.off
  ·rw [if_pos hc,if_pos hc,if_pos b11]
  ·rw [if_neg hc,if_neg hc,if_neg b11]
 ·exact cl51
theorem truncate_eq (hr:Des.Rt s.d) (h:Okr K s) (hp:p<s.scr.length):truncateR s p o=if numE s.d p o.fd≠0 then (badR 4,s) else if andV (lookV s.d p o.fd).fl 2=0 then (badR 13,s) else if (Con.truncV (s.fs.getD (lookV s.d p o.fd).fi.toNat ⟨#[]⟩) o.off).2≠0 then (badR 2,s) else (⟨0,0,⟨#[]⟩⟩,chS s (lookV s.d p o.fd).fi.toNat (Con.truncV (s.fs.getD (lookV s.d p o.fd).fi.toNat ⟨#[]⟩) o.off).1):=by
 unfold truncateR;rcases num4 hr h hp o.fd with h1|h1
 ·rw [if_neg (show ¬numE s.d p o.fd≠0 by rw [h1];simp)];have hlk:=lk_num (p:=p) h h1;obtain ⟨hl,_⟩:=look_r hr h h1;obtain ⟨a1,a2⟩:=fl_r hl;have hf:=(and_flag a1 a2).2;have hg:=h.get (lookV s.d p o.fd).fi.toNat;by_cases hz:andV (lookV s.d p o.fd).fl 2=0
  ·rw [if_pos hz,hlk,if_pos (hf.2 hz),if_pos no13]
  ·rw [if_neg hz,hlk,if_neg (fun e=>hz (hf.1 e)),if_neg yes0];generalize s.fs.getD (lookV s.d p o.fd).fi.toNat ⟨#[]⟩=sd at *;have hlong:¬Con.longB sd=true:=by rw [Con.longB_iff];omega
   by_cases hb:(Con.truncV sd o.off).2≠0
   ·rw [if_pos hb,if_pos hb];have:(Con.truncV sd o.off).2=2:=by
     unfold Con.truncV at hb ⊢;rw [if_neg hlong] at hb ⊢;split at hb
     ·rename_i hc;rw [if_pos hc]
     ·exact absurd rfl hb
    rw [this]
   ·rw [if_neg hb,if_neg hb]
 ·exact cl50
theorem punch_eq (hr:Des.Rt s.d) (h:Okr K s) (hp:p<s.scr.length):punchR s p o=if numE s.d p o.fd≠0 then (badR 4,s) else if andV (lookV s.d p o.fd).fl 2=0 then (badR 13,s) else if o.off<0∨o.len<0∨128<o.off∨128-o.off<o.len then (badR 2,s) else (⟨0,0,⟨#[]⟩⟩,chS s (lookV s.d p o.fd).fi.toNat (Con.punchV (s.fs.getD (lookV s.d p o.fd).fi.toNat ⟨#[]⟩) o.off o.len).1):=by
 unfold punchR;rcases num4 hr h hp o.fd with h1|h1
 ·rw [if_neg (show ¬numE s.d p o.fd≠0 by rw [h1];simp)];have hlk:=lk_num (p:=p) h h1;obtain ⟨hl,_⟩:=look_r hr h h1;obtain ⟨a1,a2⟩:=fl_r hl;have hf:=(and_flag a1 a2).2;have hg:=h.get (lookV s.d p o.fd).fi.toNat;by_cases hz:andV (lookV s.d p o.fd).fl 2=0
  ·rw [if_pos hz,hlk,if_pos (hf.2 hz),if_pos no13]
  ·rw [if_neg hz,hlk,if_neg (fun e=>hz (hf.1 e)),if_neg yes0];generalize s.fs.getD (lookV s.d p o.fd).fi.toNat ⟨#[]⟩=sd at *;have hlong:¬Con.longB sd=true:=by rw [Con.longB_iff];omega
   by_cases hb:o.off<0∨o.len<0∨128<o.off∨128-o.off<o.len
   ·rw [if_pos hb,if_pos];by_cases hl:128-o.off<o.len
    ·exact Or.inr hl
    ·refine Or.inl ?_;unfold Con.punchV;rw [if_neg hlong,if_pos b77];simp
   ·rw [if_neg hb,if_neg];intro e;rcases e with e|e
    ·unfold Con.punchV at e;rw [if_neg hlong,if_neg b77] at e;split at e<;>exact e rfl
    ·omega
 ·exact cl50
theorem sync_eq (hr:Des.Rt s.d) (h:Okr K s) (hp:p<s.scr.length) (x:Ev):(syncR s p o x).1=if numE s.d p o.fd≠0 then badR 4 else ⟨if (lookV s.d p o.fd).cu<s.fa.getD (lookV s.d p o.fd).fi.toNat 0 then s.la.getD (lookV s.d p o.fd).fi.toNat 0 else 0,0,⟨#[]⟩⟩:=by
 unfold syncR;rcases num4 hr h hp o.fd with h1|h1
 ·rw [lk_num h h1,and_zero,if_neg b11,if_neg (show ¬numE s.d p o.fd≠0 by rw [h1];simp)]
 ·exact cl51
theorem sync_eq2 (hr:Des.Rt s.d) (h:Okr K s) (hp:p<s.scr.length) (x:Ev):(syncR s p o x).2=if numE s.d p o.fd≠0 then s else syS {s with d:=Des.updD s.d (numV s.d p o.fd) (lookV s.d p o.fd).f (s.fa.getD (lookV s.d p o.fd).fi.toNat 0)} (lookV s.d p o.fd).fi.toNat x:=by
 unfold syncR;rcases num4 hr h hp o.fd with h1|h1
 ·rw [lk_num h h1,and_zero,if_neg b11,if_neg (show ¬numE s.d p o.fd≠0 by rw [h1];simp)]
 ·exact cl51
theorem dup_eq (hr:Des.Rt s.d) (h:Okr K s) (hp:p<s.scr.length):dupR s p o=if numE s.d p o.fd≠0 then (badR 4,s) else if Des.dupE s.d p o.fd≠0 then (badR (Des.dupE s.d p o.fd),s) else (⟨0,Des.dupF s.d p o.fd,⟨#[]⟩⟩,{s with d:=Des.dupD s.d p o.fd}):=by
 unfold dupR;rcases num4 hr h hp o.fd with h1|h1
 ·rw [if_neg (by rw [h1];simp:¬numE s.d p o.fd≠0)];by_cases hd:Des.dupE s.d p o.fd=0
  ·rw [if_pos hd,if_neg (by simp [hd])]
  ·rw [if_neg hd,if_pos hd]
 ·have:Des.dupE s.d p o.fd=4:=by unfold Des.dupE;rw [if_pos (show numE s.d p o.fd≠0 by rw [h1];exact no4),h1]
  rw [this,if_neg b11,if_pos (by rw [h1];simp)]
theorem map_eqR (hr:Des.Rt s.d) (h:Okr K s) (hp:p<s.scr.length):mappedR s p o=if numE s.d p o.fd≠0 then (badR 4,s) else if andV (lookV s.d p o.fd).fl 1=0 then (badR 13,s) else if o.wr=true∧andV (lookV s.d p o.fd).fl 2=0 then (badR 13,s) else if (Ara.mapRV [] (⟨0,o.len,(lookV s.d p o.fd).fi,o.pg,o.wr⟩:Ar)).2≠0 then (badR 2,s) else if (Ara.roomV (s.ar.getD p []) o.len).2=false∨(Ara.mapRV (s.ar.getD p []) (⟨(Ara.roomV (s.ar.getD p []) o.len).1,o.len,(lookV s.d p o.fd).fi,o.pg,o.wr⟩:Ar)).2≠0 then (badR 3,s) else (⟨0,(Ara.roomV (s.ar.getD p []) o.len).1,⟨#[]⟩⟩,{s with ar:=s.ar.set p (Ara.mapRV (s.ar.getD p []) (⟨(Ara.roomV (s.ar.getD p []) o.len).1,o.len,(lookV s.d p o.fd).fi,o.pg,o.wr⟩:Ar)).1}):=by
 unfold mappedR;rcases num4 hr h hp o.fd with h1|h1
 ·rw [if_neg (show ¬numE s.d p o.fd≠0 by rw [h1];simp)];have hlk:=lk_num (p:=p) h h1;obtain ⟨hl,f,hfi,hfl⟩:=look_r hr h h1;obtain ⟨a1,a2⟩:=fl_r hl;have hf:=(and_flag a1 a2).1;by_cases hz:andV (lookV s.d p o.fd).fl 1=0
  ·rw [if_pos hz,hlk,if_pos (hf.2 hz),if_pos no13]
  ·rw [if_neg hz,hlk,if_neg (fun e=>hz (hf.1 e)),if_neg yes0];simp only [Ara.map_eq];by_cases hw:o.wr=true∧andV (lookV s.d p o.fd).fl 2=0
   ·repeat rw [if_pos hw]
   repeat rw [if_neg hw]
   have h00:Ara.checkV []=true:=rfl;by_cases hb:Ara.rightB (⟨0,o.len,(lookV s.d p o.fd).fi,o.pg,o.wr⟩:Ar)=true
   ·have e0:(Ara.mapRV [] (⟨0,o.len,(lookV s.d p o.fd).fi,o.pg,o.wr⟩:Ar)).2=0:=by
     unfold Ara.mapRV;rw [if_neg (by rw [h00];simp),if_neg (by rw [hb];simp),if_neg (by simp [Ara.hitTo]),if_neg b11]
    repeat rw [if_neg (show ¬(Ara.mapRV [] (⟨0,o.len,(lookV s.d p o.fd).fi,o.pg,o.wr⟩:Ar)).2≠0 by rw [e0];simp)]
    generalize hL:s.ar.getD p []=L;by_cases hm:(Ara.roomV L o.len).2=false
    ·rw [if_pos hm,if_pos (Or.inl hm)]
    ·rw [if_neg hm];have hm2:(Ara.roomV L o.len).2=true:=by simpa using hm
     have hck:Ara.checkV L=true:=by
      unfold Ara.roomV at hm2;by_cases hc:Ara.checkV L=true∧Ara.withinB (Ara.lastAt L (Ara.roomK L o.len)) o.len 64=true
      ·exact hc.1
      ·rw [if_neg hc] at hm2;cases hm2
     obtain ⟨r0,r1,r2,rf⟩:=Ara.room_free (l:=L) (n:=o.len) (p:=(Ara.roomV L o.len).1) hck (by rw [←hm2]);have hrb:Ara.rightB (⟨(Ara.roomV L o.len).1,o.len,(lookV s.d p o.fd).fi,o.pg,o.wr⟩:Ar)=true:=by
      unfold Ara.rightB at hb ⊢;have:=of_decide_eq_true hb;simp only at this;exact decide_eq_true ⟨r0,r1,r2,this.2.2.2.1,this.2.2.2.2.1,this.2.2.2.2.2.1,this.2.2.2.2.2.2⟩
     have hmf:=Ara.map_free hck hrb rf;rw [Ara.map_eq] at hmf;by_cases h8:L.length=8
     ·rw [if_pos h8] at hmf;rw [hmf,if_pos b11,if_pos (Or.inr b11)]
     ·rw [if_neg h8] at hmf;rw [hmf,if_neg b11,if_neg (by rw [hm2];simp)]
   ·have e0:(Ara.mapRV [] (⟨0,o.len,(lookV s.d p o.fd).fi,o.pg,o.wr⟩:Ar)).2=2:=by
     unfold Ara.mapRV;rw [if_neg (by rw [h00];simp),if_pos (by simpa using hb)]
    repeat rw [if_pos (show (Ara.mapRV [] (⟨0,o.len,(lookV s.d p o.fd).fi,o.pg,o.wr⟩:Ar)).2≠0 by rw [e0];decide)]
    rw [e0]
 ·exact cl86
end
end Go.Proofs.YtimhaidiclbnhaaGreat.Ver
