import Derived.Test.YtimhaidiclbnhaaGreatP31
set_option linter.unusedSimpArgs false
set_option linter.unusedVariables false
set_option maxRecDepth 100000
open Go.ChangeShapes Go.WideShapes Go.ChangeAt Go.RowKit
namespace Go.Proofs.YtimhaidiclbnhaaGreat.Ver
open Des (Dv De Dn DIn DBlk DAns Vi At RowOf ints DSz numE numV lookV updD updE)
open Ara (Ar ARow)
open Con (StrRow)
section
variable {mc:Ly→St→List Value} {q:Rq} {B:Nat} {W W':World} {l:Ly} {s:St}
theorem Mg.setEx (h:Mg mc B W l s) (hb:Below W W W') (ex':List Nat) (hex:∀b,b∈ex'→(b∈l.ex∨W.heap.size≤b)∧b<W'.heap.size) (hm:mc {l with ex:=ex'} s=mc l s:=by rfl):Mg mc B W' {l with ex:=ex'} s:=
 h.grow (row:=none) ⟨hb.os,hb.tape,hb.output,hb.size,fun k hk _=>hb.block k hk⟩ (fun g hg=>by cases hg) ex' hex hm
theorem Mg.other (h:Mg mc B W l s) {R:Nat} (hk:Vk [R] W W') (hR:R∈l.ex) (hn:R∉vs l):Mg mc B W' l s:=
 h.grow (row:=some R) (W1:=W') ⟨hk.os,hk.tape,hk.output,hk.size,fun k hk2 hne=>hk.block k (by simp;exact fun e=>hne (by rw [e])) hk2⟩ (fun g hg=>by cases hg;exact ⟨hR,hn⟩) l.ex (fun b hb=>⟨Or.inl hb,Nat.lt_of_lt_of_le (h.hx b hb).1 hk.size⟩) rfl
theorem Rm.setEx (h:Rm q B W l s) (hb:Below W W W') (ex':List Nat) (hex:∀b,b∈ex'→(b∈l.ex∨W.heap.size≤b)∧b<W'.heap.size):Rm q B W' {l with ex:=ex'} s:=⟨h.g.setEx hb ex' hex,h.cf,h.ch,h.cs⟩
theorem Rm.other (h:Rm q B W l s) {R:Nat} (hk:Vk [R] W W') (hR:R∈l.ex) (hn:R∉vs l):Rm q B W' l s:=⟨h.g.other hk hR hn,h.cf,h.ch,h.cs⟩
theorem Vk.cells {V:List Nat} (b:Nat) (hb:b∈V):∀(us:List Value) (o:Nat) (w:World),Vk V w (w.setCells b o us)
 |[],_,_=>Vk.refl _ _
 |u::us,o,w=>(Vk.set w b o u hb).trans (Vk.cells b hb us (o+1) _)
end
def RefP (b:Bool) (q:Rq) (B:Nat) (W:World) (l:Ly) (r:Res) (s':St) (e:Ending) (w':World):Prop:=
 (∃x' ar' hs',e=.returned (.agg #[r.er,r.n,.string r.dat])∧Rm q B w' {l with x:=x',ar:=ar',hs:=hs'} s'∧Vk (vs l) W w')∧(b=false→Below W W w')
structure Lc (pu:Bool) (q:Rq) (B:Nat) (W0 W:World) (l0 l:Ly) (s:St) (K:Nat) (cs rs ds:List Value):Prop where
 m:Rm q B W l s
 v:Vk (vs l0) W0 W
 t:At W W0.heap.size cs
 r:At W (W0.heap.size+1) rs
 k:At W K ds
 lo:W0.heap.size+1<K
 ex:l.ex=W0.heap.size::(W0.heap.size+1)::K::l0.ex
 hv:vs l=vs l0
 eq:∃x' ar' hs',{l with ex:=l0.ex}={l0 with x:=x',ar:=ar',hs:=hs'}
 hi:∀b,b∈vs l0→b<W0.heap.size
 bw:pu=true→Below W0 W0 W
section
variable {pu:Bool} {q:Rq} {B:Nat} {W0 W1 W W':World} {l0 l l':Ly} {s s':St} {K:Nat} {cs rs ds:List Value}
theorem Lc.start (h:Rm q B W0 l0 s) (hx:Bx2 W0 W1 W0.heap.size (W0.heap.size+1) cs rs) (hn:Nb W1 W K ds):Lc true q B W0 W l0 {l0 with ex:=W0.heap.size::(W0.heap.size+1)::K::l0.ex} s K cs rs ds:=
 have hb:Below W0 W0 W:=hx.bel.trans (hn.bel.mono hx.bel.size);have hK:=hn.lo;have hR:=hx.r.hi
 ⟨h.setEx hb _ (fun b hm=>by
  simp only [List.mem_cons] at hm;rcases hm with rfl|rfl|rfl|hm
  ·exact ⟨Or.inr Nr,(hx.t.below hn.bel hx.t.hi).hi⟩
  ·exact ⟨Or.inr b10,(hx.r.below hn.bel hx.r.hi).hi⟩
  ·exact ⟨Or.inr b10,hn.at'.hi⟩
  ·exact ⟨Or.inl hm,Nat.lt_of_lt_of_le (h.g.hx b hm).1 hb.size⟩),Vk.ofBelow hb,hx.t.below hn.bel hx.t.hi,hx.r.below hn.bel hx.r.hi,hn.at',by omega,rfl,rfl,⟨l0.x,l0.ar,l0.hs,rfl⟩,fun b hm=>h.g.hi b hm,fun _=>hb⟩
theorem Lc.below (h:Lc pu q B W0 W l0 l s K cs rs ds) (hb:Below W W W'):Lc pu q B W0 W' l0 l s K cs rs ds:=
 ⟨h.m.below hb,h.v.trans (Vk.ofBelow hb),h.t.below hb h.t.hi,h.r.below hb h.r.hi,h.k.below hb h.k.hi,h.lo,h.ex,h.hv,h.eq,h.hi,fun e=>(h.bw e).trans (hb.mono h.v.size)⟩
theorem Lc.weak (h:Lc pu q B W0 W l0 l s K cs rs ds):Lc false q B W0 W l0 l s K cs rs ds:={h with bw:=fun e=>by cases e}
theorem Lc.step (h:Lc pu q B W0 W l0 l s K cs rs ds) (m:Rm q B W' l' s') (v:Vk (Ver.vs l) W W') (hv:Ver.vs l'=Ver.vs l) (he:l'.ex=l.ex) (hq:∃x' ar' hs',l'={l with x:=x',ar:=ar',hs:=hs'}):Lc false q B W0 W' l0 l' s' K cs rs ds:=
 have nm:∀b,W0.heap.size≤b→b∉Ver.vs l:=fun b hb hm=>by rw [h.hv] at hm;have:=h.hi b hm;omega
 have lo:=h.lo
 ⟨m,h.v.trans (by rw [←h.hv];exact v),Tk.at h.t v (nm _ Nr),Tk.at h.r v (nm _ b10),Tk.at h.k v (nm _ b10),h.lo,he.trans h.ex,hv.trans h.hv,by
  obtain ⟨x',ar',hs',rfl⟩:=hq;obtain ⟨x2,ar2,hs2,e⟩:=h.eq;refine ⟨x',ar',hs',?_⟩;have e1:({l with x:=x',ar:=ar',hs:=hs',ex:=l0.ex}:Ly)={({l with ex:=l0.ex}:Ly) with x:=x',ar:=ar',hs:=hs'}:=rfl;show ({l with x:=x',ar:=ar',hs:=hs',ex:=l0.ex}:Ly)=_;rw [e1,e],h.hi,fun e=>by cases e⟩
theorem Lc.stepV (h:Lc pu q B W0 W l0 l s K cs rs ds) (y:Dv) (m:Rm q B W' {l with x:=y} s') (v:Vk (Ver.vs l) W W'):Lc false q B W0 W' l0 {l with x:=y} s' K cs rs ds:=h.step m v rfl rfl ⟨y,l.ar,l.hs,rfl⟩
theorem Lc.stepH (h:Lc pu q B W0 W l0 l s K cs rs ds) (hs:List Sl) (m:Rm q B W' {l with hs:=hs} s') (v:Vk (Ver.vs l) W W'):Lc false q B W0 W' l0 {l with hs:=hs} s' K cs rs ds:=h.step m v rfl rfl ⟨l.x,l.ar,hs,rfl⟩
theorem Lc.stepA (h:Lc pu q B W0 W l0 l s K cs rs ds) (ar:List Sl) (m:Rm q B W' {l with ar:=ar} s') (v:Vk (Ver.vs l) W W'):Lc false q B W0 W' l0 {l with ar:=ar} s' K cs rs ds:=h.step m v rfl rfl ⟨l.x,ar,l.hs,rfl⟩
theorem Lc.putR (h:Lc pu q B W0 W l0 l s K cs rs ds) (us:List Value) (hl:us.length=rs.length):Lc pu q B W0 (W.setCells (W0.heap.size+1) 0 us) l0 l s K cs us ds:=
 have lo:=h.lo;have nm:(W0.heap.size+1)∉Ver.vs l:=fun hm=>by rw [h.hv] at hm;have:=h.hi _ hm;omega
 have hk:Vk [W0.heap.size+1] W (W.setCells (W0.heap.size+1) 0 us):=Vk.cells _ b11 us 0 W
 ⟨h.m.other hk (by rw [h.ex];simp) nm,⟨hk.os.trans h.v.os,hk.tape.trans h.v.tape,hk.output.trans h.v.output,Nat.le_trans h.v.size hk.size,fun b hb hlt=>(hk.block b b16 (Nat.lt_of_lt_of_le hlt h.v.size)).trans (h.v.block b hb hlt)⟩,h.t.apart b10 0 us,h.r.store us hl,h.k.apart b10 0 us,h.lo,h.ex,h.hv,h.eq,h.hi,fun e=>below_setCells (h.bw e) b10 us 0⟩
theorem Lc.setK (h:Lc pu q B W0 W l0 l s K cs rs ds) (i:Nat) (v:Value):Lc pu q B W0 (W.setCell (K i) v) l0 l s K cs rs (ds.set i v):=
 have lo:=h.lo;have nm:K∉Ver.vs l:=fun hm=>by rw [h.hv] at hm;have:=h.hi _ hm;omega
 have hk:Vk [K] W (W.setCell (K i) v):=Vk.set W _ _ _ b11
 ⟨h.m.other hk (by rw [h.ex];simp) nm,⟨hk.os.trans h.v.os,hk.tape.trans h.v.tape,hk.output.trans h.v.output,Nat.le_trans h.v.size hk.size,fun b hb hlt=>(hk.block b b16 (Nat.lt_of_lt_of_le hlt h.v.size)).trans (h.v.block b hb hlt)⟩,h.t.setOther (x:=⟨K,i,none⟩) (by show W0.heap.size≠K;omega) _,h.r.setOther (x:=⟨K,i,none⟩) (by show W0.heap.size+1≠K;omega) _,h.k.set i v,h.lo,h.ex,h.hv,h.eq,h.hi,fun e=>(h.bw e).setCell (p:=(K i)) (by show W0.heap.size≤K;omega) v⟩
theorem Lc.ends (h:Lc pu q B W0 W l0 l s K cs rs ds) (m0:∀b,b∈l0.ex→b<W0.heap.size):∃x' ar' hs',Rm q B W {l0 with x:=x',ar:=ar',hs:=hs'} s∧Vk (Ver.vs l0) W0 W:=by
 obtain ⟨x',ar',hs',e⟩:=h.eq;refine ⟨x',ar',hs',?_,h.v⟩;rw [←e];exact h.m.setEx Br l0.ex fun b hb=>⟨Or.inl (by rw [h.ex];simp [hb]),Nat.lt_of_lt_of_le (m0 b hb) h.v.size⟩
theorem Lc.finA (h:Lc pu q B W0 W l0 l s K cs rs ds) (r:Res) (hr:rs.length=3):At (((W.setCell (W0 1 0) r.er).setCell (W0 1 1) r.n).setCell (W0 1 2) (.string r.dat)) (W0.heap.size+1) [r.er,r.n,.string r.dat]:=
 (h.putR [r.er,r.n,.string r.dat] hr.symm).r
theorem Lc.fin (h:Lc pu q B W0 W l0 l s K cs rs ds) (r:Res) (hr:rs.length=3) (m0:∀b,b∈l0.ex→b<W0.heap.size) {b:Bool} (hb:b=false→pu=true):RefP b q B W0 l0 r s (.returned (.agg #[r.er,r.n,.string r.dat])) (((W.setCell (W0 1 0) r.er).setCell (W0 1 1) r.n).setCell (W0 1 2) (.string r.dat)):=by
 have h2:=h.putR [r.er,r.n,.string r.dat] hr.symm;obtain ⟨x',ar',hs',e⟩:=h2.eq;refine ⟨⟨x',ar',hs',rfl,?_,h2.v⟩,fun e=>h2.bw (hb e)⟩;rw [←e];exact h2.m.setEx Br l0.ex fun b hb=>⟨Or.inl (by rw [h2.ex];simp [hb]),Nat.lt_of_lt_of_le (m0 b hb) h2.v.size⟩
end
theorem dy_beforeR {mc:Ly→St→List Value} {B:Nat} {W1 w2:World} {l:Ly} {s:St} {y:Dv} {zs:List Value} {T:TypeId} (h:Mg mc B W1 l s) (ha:DAns (W1.alloc (.cells zs.toArray T)).drew l.x w2 y) (us:List Value):DAns W1 l.x (w2.setCells W1.heap.size 0 us) y:=by
 exact cl45
theorem At.three {W:World} {b:Nat} {a0 a1 a2:Value} (h:At W b [a0,a1,a2]):(W.cell? (b 0)=some a0∧W.cell? (b 1)=some a1∧W.cell? (b 2)=some a2)∧(W.frozen? (b 0)=false∧W.frozen? (b 1)=false∧W.frozen? (b 2)=false)∧b<W.heap.size:=
 ⟨⟨h.cell 0 _ rfl,h.cell 1 _ rfl,h.cell 2 _ rfl⟩,⟨h.free 0 b11,h.free 1 b11,h.free 2 b11⟩,h.hi⟩
open Des (Dv De Dn DIn DBlk DAns Vi At RowOf ints DSz)
def posR:List Nat:=[4,8,12,16,20,22]
def lenR (n ns j:Nat):Nat:=[ns,n,n,ns,ns].getD j 0
def z31:List Value:=[σ,σ,I,I,I,I,I,I,I,I,σ,σ,I,I,σ,σ,σ,I,I,σ,σ,σ,σ,σ,σ,σ,σ,σ,σ,σ,σ]
def zsR (n ns:Nat):List (List Value×TypeId):=[(List.replicate ns (.slice none 0 0),106),(List.replicate n (.int .i64 0),3),(List.replicate n (.int .i64 0),51),(List.replicate ns (.int .i64 0),3),(List.replicate ns (.int .i64 0),3),(z31,90)]
def rZ (pl sc:Value) (oD tD:Value) (n ns:Nat) (β:Nat→Nat) (v3 v6 v7:Value):List Value:=cfgC pl sc++[oD,tD,fx (β 0) ns,v3,fx (β 1) n,fx (β 2) n,v6,v7,fx (β 3) ns,fx (β 4) ns]
def rz0 (pl sc:Value) (n ns:Nat) (β:Nat→Nat):List Value:=rZ pl sc (.slice none 0 0) (.slice none 0 0) n ns β (.slice none 0 0) (.slice none 0 0) (.slice none 0 0)
theorem Vk_cells {V:List Nat} (b:Nat) (hb:b∈V):∀(us:List Value) (o:Nat) (w:World),Vk V w (w.setCells b o us)
 |[],_,_=>Vk.refl _ _
 |u::us,o,w=>(Vk.set w b o u hb).trans (Vk_cells b hb us (o+1) _)
structure BrS (W1:World) (pl sc:Value) (n ns:Nat) (ν:Nat→Value) (β:Nat→Nat) (l:Array Bool) (w:World):Prop where
 mks:Mks W1 posR (zsR n ns) β l w
 v:∀j,j<5→l.getD (posR.getD j 0) false=true→ν j=.slice (some ((β j) 0)) (lenR n ns j) (lenR n ns j)
 v5:l.getD 22 false=true→ν 6=.pointer (some ((β 5) 0))
 bd:l.getD 21 false=true→(∀j,j<5→l.getD (posR.getD j 0) false=true)∧ν 5=.agg (rz0 pl sc n ns β).toArray
 st:¬l.getD 23 false=true
structure BrF (W1:World) (pl sc:Value) (n ns:Nat) (ν:Nat→Value) (β:Nat→Nat) (w:World):Prop where
 bel:Below W1 W1 w
 al:∀j,j<5→W1.heap.size≤β j∧Bl w (β j) ((zsR n ns).getD j ([],0)).1 ((zsR n ns).getD j ([],0)).2
 ne:∀i j,i<6→j<6→i≠j→β i≠β j
 lo:W1.heap.size≤β 5
 m:At w (β 5) (rz0 pl sc n ns β)
 v:ν 6=.pointer (some ((β 5) 0))
def BrT (W1:World) (pl sc:Value) (n ns:Nat) (ν:Nat→Value) (l:Array Bool) (w:World):Prop:=(∃β,BrS W1 pl sc n ns ν β l w)∨((∀i,i<24→l.getD i false=true)∧∃β,BrF W1 pl sc n ns ν β w)
section
variable {W1 w:World} {pl sc:Value} {n ns:Nat} {ν:Nat→Value} {l:Array Bool}
theorem posR_le (j:Nat) (hj:j<6):posR.getD j 0≤22∧posR.getD j 0≠21:=by
 rcases j with _ | _ | _ | _ | _ | _ |j<;>first|omega|decide
theorem posR_ne (k j:Nat) (hk:k<6) (hj:j<6) (h:k≠j):posR.getD k 0≠posR.getD j 0:=by
 have:∀k:Fin 6,∀j:Fin 6,k≠j→posR.getD k.1 0≠posR.getD j.1 0:=by decide
 exact this ⟨k,hk⟩ ⟨j,hj⟩ (fun e=>h (congrArg Fin.val e))
theorem BrT.start:BrT W1 pl sc n ns ν (Array.replicate 24 false) W1.drew:=by
 refine Or.inl ⟨fun _=>0,⟨Br.drew,fun j _ h=>?_,fun i j _ _ _ h=>?_⟩,fun j _ h=>?_,fun h=>?_,fun h=>?_,fun h=>?_⟩
 all_goals rw [getD_rep] at h;cases h
theorem BrT.bel (h:BrT W1 pl sc n ns ν l w):Below W1 W1 w:=by
 rcases h with ⟨β,h⟩|⟨_,β,h⟩
 ·exact h.mks.bel
 ·exact h.bel
theorem BrT.pure (h:BrT W1 pl sc n ns ν l w) (i:Nat) (hi:∀j,j<6→posR.getD j 0≠i) (h21:i≠21) (h23:i<23) (hun:l.getD i true=false):BrT W1 pl sc n ns ν (l.setIfInBounds i true) w:=by
 rcases h with ⟨β,h⟩|⟨hall,_⟩
 ·refine Or.inl ⟨β,h.mks.pure hi,fun j hj hl=>h.v j hj (by rwa [getD_set_ne false (fun e=>hi j b10 e.symm)] at hl),fun hl=>?_,fun hl=>?_,fun hl=>?_⟩
  ·rw [getD_set_ne false (show i≠22 from fun e=>hi 5 b10 e.symm)] at hl;exact h.v5 hl
  ·rw [getD_set_ne false h21] at hl;exact ⟨fun j hj=>by rw [getD_set_ne false (fun e=>hi j b10 e.symm)];exact (h.bd hl).1 j hj,(h.bd hl).2⟩
  ·rw [getD_set_ne false b10] at hl;exact h.st hl
 ·exact (ff (b:=true) hun (hall i b10)).elim
theorem BrT.make {j:Nat} (h:BrT W1 pl sc n ns ν l w) (hj:j<5) (hun:l.getD (posR.getD j 0) true=false) {m:Nat} (hm:lenR n ns j=m):BrT W1 pl sc n ns (updv ν j (.slice (some (w 0 0)) m m)) (l.setIfInBounds (posR.getD j 0) true) (w.alloc (.cells ((zsR n ns).getD j ([],0)).1.toArray ((zsR n ns).getD j ([],0)).2)):=by
 have hp:=posR_le j b10;rcases h with ⟨β,h⟩|⟨hall,_⟩
 ·have h21:¬l.getD 21 false=true:=fun hl=>ff (b:=true) hun ((h.bd hl).1 j hj);refine Or.inl ⟨upd β j w.heap.size,h.mks.make (show j<6 by omega) fun k hk hkj=>posR_ne k j hk b10 hkj,fun k hk hl=>?_,fun hl=>?_,fun hl=>?_,fun hl=>?_⟩
  ·by_cases e:k=j
   ·subst e;simp only [updv,upd,if_true,hm]
   ·rw [getD_set_ne false (fun e2=>posR_ne k j b10 b10 e e2.symm)] at hl;simp only [updv,upd,if_neg e];exact h.v k hk hl
  ·rw [getD_set_ne false (show posR.getD j 0≠22 from fun e2=>posR_ne 5 j b10 b10 b10 e2.symm)] at hl;simp only [updv,upd,if_neg (by omega:¬6=j),if_neg (by omega:¬5=j)];exact h.v5 hl
  ·rw [getD_set_ne false b10] at hl;exact absurd hl h21
  ·rw [getD_set_ne false b10] at hl;exact h.st hl
 ·exact (ff (b:=true) hun (hall _ b10)).elim
theorem BrT.alloc (h:BrT W1 pl sc n ns ν l w) (hun:l.getD 22 true=false):BrT W1 pl sc n ns (updv ν 6 (.pointer (some (w 0 0)))) (l.setIfInBounds 22 true) (w.alloc (.cells z31.toArray 90)):=by
 rcases h with ⟨β,h⟩|⟨hall,_⟩
 ·refine Or.inl ⟨upd β 5 w.heap.size,h.mks.make (j:=5) (show 5<6 by omega) fun k hk hkj=>posR_ne k 5 hk b10 hkj,fun k hk hl=>?_,fun hl=>?_,fun hl=>?_,fun hl=>?_⟩
  ·rw [getD_set_ne false (show 22≠posR.getD k 0 from fun e2=>posR_ne k 5 b10 b10 b10 e2.symm)] at hl;simp only [updv,upd,if_neg (by omega:¬k=6),if_neg (by omega:¬k=5)];exact h.v k hk hl
  ·simp [updv,upd]
  ·rw [getD_set_ne false b10] at hl;refine ⟨fun j hj=>getD_set_true ((h.bd hl).1 j hj),?_⟩;simp only [updv,if_neg (by omega:¬(5:Nat)=6)];exact (h.bd hl).2
  ·rw [getD_set_ne false b10] at hl;exact h.st hl
 ·exact (ff (b:=true) hun (hall _ b10)).elim
theorem BrT.build (h:BrT W1 pl sc n ns ν l w) (hall:∀j,j<5→l.getD (posR.getD j 0) false=true) (hun:l.getD 21 true=false):∃β:Nat→Nat,(∀j,j<5→ν j=.slice (some ((β j) 0)) (lenR n ns j) (lenR n ns j))∧BrT W1 pl sc n ns (updv ν 5 (.agg (rz0 pl sc n ns β).toArray)) (l.setIfInBounds 21 true) w:=by
 rcases h with ⟨β,h⟩|⟨hal,_⟩
 ·refine ⟨β,fun j hj=>h.v j hj (hall j hj),Or.inl ⟨β,h.mks.pure (fun j hj e=>(posR_le j hj).2 e),fun j hj hl=>?_,fun hl=>?_,fun _=>⟨fun j hj=>getD_set_true (hall j hj),by simp [updv]⟩,fun hl=>?_⟩⟩
  ·simp only [updv,if_neg (by omega:¬j=5)];exact h.v j hj (hall j hj)
  ·rw [getD_set_ne false b10] at hl;simp only [updv,if_neg (by omega:¬(6:Nat)=5)];exact h.v5 hl
  ·rw [getD_set_ne false b10] at hl;exact h.st hl
 ·exact (ff (b:=true) hun (hal _ b10)).elim
theorem BrT.store (h:BrT W1 pl sc n ns ν l w) (hall:∀i,i<23→l.getD i false=true) (hun:l.getD 23 true=false):∃β:Nat→Nat,ν 5=.agg (rz0 pl sc n ns β).toArray∧ν 6=.pointer (some ((β 5) 0))∧At w (β 5) z31∧BrT W1 pl sc n ns ν (l.setIfInBounds 23 true) (w.setCells (β 5) 0 (rz0 pl sc n ns β)):=by
 rcases h with ⟨β,h⟩|⟨hal,_⟩
 ·obtain ⟨_,e5⟩:=h.bd (hall 21 b10);have e6:=h.v5 (hall 22 b10);have al:∀j,j<6→W1.heap.size≤β j∧Bl w (β j) ((zsR n ns).getD j ([],0)).1 ((zsR n ns).getD j ([],0)).2:=fun j hj=>h.mks.al j hj (hall _ (by have:=posR_le j hj;omega));have ne:∀i j,i<6→j<6→i≠j→β i≠β j:=fun i j hi hj hij=>h.mks.ne i j hi hj hij (hall _ (by have:=posR_le i hi;omega)) (hall _ (by have:=posR_le j hj;omega));have hz:At w (β 5) z31:=(al 5 b10).2.at;refine ⟨β,e5,e6,hz,Or.inr ⟨fun i hi=>?_,β,below_setCells h.mks.bel (al 5 b10).1 _ 0,fun j hj=>⟨(al j b10).1,?_⟩,ne,(al 5 b10).1,hz.store _ rfl,e6⟩⟩
  ·by_cases e:i=23
   ·subst e;have hsz:23<l.size:=by
     rcases Nat.lt_or_ge 23 l.size with h3|h3
     ·exact h3
     ·simp [Array.getElem?_eq_none h3] at hun
    simp [hsz]
   ·rw [getD_set_ne false (fun e2=>e e2.symm)];exact hall i b10
  ·have hk:Vk [β 5] w (w.setCells (β 5) 0 (rz0 pl sc n ns β)):=Vk_cells (β 5) b11 _ 0 w;exact (hk.block (β j) (by simp;exact ne j 5 b10 b10 b10) (al j b10).2.hi).trans (al j b10).2
 ·exact (ff (b:=true) hun (hal _ b10)).elim
end
structure Bs (n0:Nat) (w:World) (lst:List ByteArray) (kc kh ks:Nat) (v3 v6 v7:Value) (hs st:List Sl):Prop where
 cf:w.ownsRow n0 9 1 v3 kc ((List.range kc).map fun i=>Value.string (lst.getD i ⟨#[]⟩))
 ch:w.ownsRow n0 57 2 v6 kh (hs.flatMap fun s=>[.slice s.a 1 s.c,.int .i64 0])
 cs:w.ownsRow n0 22 1 v7 ks (st.map fun s=>.slice s.a 1 s.c)
 lh:hs.length=kh
 ls:st.length=ks
 hi:∀i,i<kh→∃g,hs.getD i Sl.nil=⟨some ⟨g,0,none⟩,1⟩∧n0≤g∧Bl w g [.string (lst.getD i ⟨#[]⟩)] 9∧v3.ownBlock≠some g
 si:∀i,i<ks→∃g,st.getD i Sl.nil=⟨some ⟨g,0,none⟩,1⟩∧n0≤g∧Bl w g [(1:Int)] 3
 sn:(stB st).Nodup
theorem own_ty {w:World} {n0 e size n:Nat} {v:Value} {xs:List Value} (h:w.ownsRow n0 e size v n xs) {q:Nat} (hq:v.ownBlock=some q):n0≤q∧∃cur,w.heap[q]? =some (.cells cur e (0,0)):=by
 rcases h.2 with ⟨h1,_⟩|⟨g,cap,cur,h1,h2,h3,_⟩
 ·rw [h1] at hq;cases hq
 ·rw [h1] at hq;cases hq;exact ⟨h2,cur,h3⟩
theorem bl_ty {w:World} {b:Nat} {cs:List Value} {t e:TypeId} {cur:Array Value} (h:Bl w b cs t) (hc:w.heap[b]? =some (.cells cur e (0,0))):t=e:=by
 unfold Bl at h;rw [h] at hc;cases hc;rfl
section
variable {n0:Nat} {w w':World} {lst:List ByteArray} {kc kh ks:Nat} {v3 v6 v7:Value} {hs st:List Sl}
theorem Bs.keep (h:Bs n0 w lst kc kh ks v3 v6 v7 hs st) (hk:∀b,n0≤b→b<w.heap.size→w'.heap[b]? =w.heap[b]?):Bs n0 w' lst kc kh ks v3 v6 v7 hs st:=by
 have ok:∀{v:Value} {e size n:Nat} {xs:List Value},w.ownsRow n0 e size v n xs→w'.ownsRow n0 e size v n xs:=fun {v e size n xs} h1=>own_keepB h1 fun q hq=>by
  obtain ⟨h2, cur, h3⟩ := own_ty h1 hq; exact hk q h2 (by
   rcases Nat.lt_or_ge q w.heap.size with h4|h4
   ·exact h4
   ·rw [Array.getElem?_eq_none h4] at h3;cases h3)
 exact ⟨ok h.cf,ok h.ch,ok h.cs,h.lh,h.ls,fun i hi=>by
  obtain ⟨g,h1,h2,h3,h4⟩:=h.hi i hi;exact ⟨g,h1,h2,(hk g h2 h3.hi).trans h3,h4⟩,fun i hi=>by
  obtain ⟨g,h1,h2,h3⟩:=h.si i hi;exact ⟨g,h1,h2,(hk g h2 h3.hi).trans h3⟩,h.sn⟩
theorem Bs.below (h:Bs n0 w lst kc kh ks v3 v6 v7 hs st) (hb:Below w w w'):Bs n0 w' lst kc kh ks v3 v6 v7 hs st:=h.keep fun b _ h2=>hb.block b h2
theorem Bs.setM (h:Bs n0 w lst kc kh ks v3 v6 v7 hs st) {M:Nat} (hM:M<n0) (j:Nat) (v:Value):Bs n0 (w.setCell (M j) v) lst kc kh ks v3 v6 v7 hs st:=
 h.keep fun b h1 h2=>(Vk.set w M j v (V:=[M]) b11).block b b16 h2
theorem grown_own {row:Option Nat} (hg:w.grownBy w' row) {v:Value} {e size n:Nat} {xs:List Value} (h1:w.ownsRow n0 e size v n xs) (hne:∀q,v.ownBlock=some q→some q≠row):w'.ownsRow n0 e size v n xs:=own_keepB h1 fun q hq=>by
 obtain ⟨h2,cur,h3⟩:=own_ty h1 hq;refine hg.block q ?_ (hne q hq);rcases Nat.lt_or_ge q w.heap.size with h4|h4
 ·exact h4
 ·rw [Array.getElem?_eq_none h4] at h3;cases h3
theorem grown_bl {row:Option Nat} (hg:w.grownBy w' row) {b:Nat} {cs:List Value} {t:TypeId} (h:Bl w b cs t) (hne:some b≠row):Bl w' b cs t:=(hg.block b h.hi hne).trans h
theorem ne_row {v u:Value} {e1 e2 s1 s2 m1 m2:Nat} {x1 x2:List Value} (h1:w.ownsRow n0 e1 s1 v m1 x1) (h2:w.ownsRow n0 e2 s2 u m2 x2) (he:e1≠e2):∀q,v.ownBlock=some q→some q≠u.ownBlock:=fun q hq e=>by
 obtain ⟨_,c1,h3⟩:=own_ty h1 hq;obtain ⟨_,c2,h4⟩:=own_ty h2 e.symm;rw [h3] at h4;cases h4;exact he rfl
theorem ne_bl {v:Value} {e s m b:Nat} {x cs:List Value} {t:TypeId} (h1:w.ownsRow n0 e s v m x) (h2:Bl w b cs t) (he:t≠e):some b≠v.ownBlock:=fun e2=>by
 obtain ⟨_,c1,h3⟩:=own_ty h1 e2.symm;exact he (bl_ty h2 h3)
theorem Bs.growC (h:Bs n0 w lst kc kh ks v3 v6 v7 hs st) {g cap:Nat} (hown:w'.ownsRow n0 9 1 (.slice (some (g 0)) (kc+1) cap) (kc+1) ((List.range kc).map (fun i=>Value.string (lst.getD i ⟨#[]⟩))++[.string (lst.getD kc ⟨#[]⟩)])) (hg:w.grownBy w' v3.ownBlock) (hat:v3.ownBlock=some g∨g=w.heap.size):
 Bs n0 w' lst (kc+1) kh ks (.slice (some (g 0)) (kc+1) cap) v6 v7 hs st:=by
 refine ⟨?_,grown_own hg h.ch (ne_row h.ch h.cf b14),grown_own hg h.cs (ne_row h.cs h.cf b14),h.lh,h.ls,fun i hi=>?_,fun i hi=>?_,h.sn⟩
 ·rw [List.range_succ,List.map_append];exact hown
 ·obtain ⟨b,h1,h2,h3,h4⟩:=h.hi i hi;refine ⟨b,h1,h2,grown_bl hg h3 (fun e=>h4 e.symm),fun e=>?_⟩;have e2:g=b:=by cases e;rfl
  rcases hat with h5|h5
  ·exact h4 (by rw [h5,e2])
  ·have:=h3.hi;omega
 ·obtain ⟨b,h1,h2,h3⟩:=h.si i hi;exact ⟨b,h1,h2,grown_bl hg h3 (ne_bl h.cf h3 b14)⟩
theorem Bs.growH (h:Bs n0 w lst kc kh ks v3 v6 v7 hs st) {g cap b:Nat} (hb:Bl w b [.string (lst.getD kh ⟨#[]⟩)] 9) (hbn:n0≤b) (hb3:v3.ownBlock≠some b)
 (hown:w'.ownsRow n0 57 2 (.slice (some (g 0)) (kh+1) cap) (kh+1) (hs.flatMap (fun s=>[.slice s.a 1 s.c,.int .i64 0])++[.slice (some (b 0)) 1 1,.int .i64 0])) (hg:w.grownBy w' v6.ownBlock):
 Bs n0 w' lst kc (kh+1) ks v3 (.slice (some (g 0)) (kh+1) cap) v7 (hs++[⟨some ⟨b,0,none⟩,1⟩]) st:=by
 refine ⟨grown_own hg h.cf (ne_row h.cf h.ch b14),?_,grown_own hg h.cs (ne_row h.cs h.ch b14),by simp [h.lh],h.ls,fun i hi=>?_,fun i hi=>?_,h.sn⟩
 ·rw [List.flatMap_append];simpa using hown
 ·by_cases e:i=kh
  ·subst e;refine ⟨b,?_,hbn,grown_bl hg hb (ne_bl h.ch hb b14),hb3⟩;have:=h.lh;simp [List.getD,←this]
  ·obtain ⟨c,h1,h2,h3,h4⟩:=h.hi i b10;refine ⟨c,?_,h2,grown_bl hg h3 (ne_bl h.ch h3 b14),h4⟩;rw [←h1];have:=h.lh;simp only [List.getD];rw [List.getElem?_append_left b10]
 ·obtain ⟨c,h1,h2,h3⟩:=h.si i hi;exact ⟨c,h1,h2,grown_bl hg h3 (ne_bl h.ch h3 b14)⟩
theorem Bs.growS (h:Bs n0 w lst kc kh ks v3 v6 v7 hs st) {g cap b:Nat} (hb:Bl w b [(1:Int)] 3) (hbn:n0≤b) (hnew:∀i,i<ks→∀c,(st.getD i Sl.nil)=⟨some ⟨c,0,none⟩,1⟩→c≠b)
 (hown:w'.ownsRow n0 22 1 (.slice (some (g 0)) (ks+1) cap) (ks+1) (st.map (fun s=>.slice s.a 1 s.c)++[.slice (some (b 0)) 1 1])) (hg:w.grownBy w' v7.ownBlock):
 Bs n0 w' lst kc kh (ks+1) v3 v6 (.slice (some (g 0)) (ks+1) cap) hs (st++[⟨some ⟨b,0,none⟩,1⟩]):=by
 refine ⟨grown_own hg h.cf (ne_row h.cf h.cs b14),grown_own hg h.ch (ne_row h.ch h.cs b14),?_,h.lh,by simp [h.ls],fun i hi=>?_,fun i hi=>?_,?_⟩
 ·rw [List.map_append];simpa using hown
 ·obtain ⟨c,h1,h2,h3,h4⟩:=h.hi i hi;exact ⟨c,h1,h2,grown_bl hg h3 (ne_bl h.cs h3 b14),h4⟩
 ·by_cases e:i=ks
  ·subst e;refine ⟨b,?_,hbn,grown_bl hg hb (ne_bl h.cs hb b14)⟩;have:=h.ls;simp [List.getD,←this]
  ·obtain ⟨c,h1,h2,h3⟩:=h.si i b10;refine ⟨c,?_,h2,grown_bl hg h3 (ne_bl h.cs h3 b14)⟩;rw [←h1];have:=h.ls;simp only [List.getD];rw [List.getElem?_append_left b10]
 ·unfold stB;rw [List.filterMap_append];show (stB st++[b]).Nodup;rw [List.nodup_append];refine ⟨h.sn,by simp,fun x hx y hy=>?_⟩;simp at hy;subst hy;unfold stB at hx;obtain ⟨s,hs1,hs2⟩:=List.mem_filterMap.1 hx;obtain ⟨i,hi,he⟩:=List.mem_iff_getElem.1 hs1;have hi2:i<ks:=by have:=h.ls;omega
  obtain ⟨c,h1,h2,h3⟩:=h.si i hi2;have e3:st.getD i Sl.nil=s:=by simp [List.getD,hi,he]
  rw [e3] at h1;rw [h1] at hs2;simp at hs2;subst hs2;exact hnew i hi2 c (by rw [e3,h1])
theorem At.ofOwn {e size n g cap:Nat} {xs:List Value} (h:w.ownsRow n0 e size (.slice (some (g 0)) n cap) n xs):At w g xs∧n0≤g:=by
 obtain ⟨hl,h1|⟨g2,cap2,cur,h1,h2,h3,h4,h5,h6,h7⟩⟩:=h
 ·cases h1.1
 ·cases h1;have hlt:g<w.heap.size:=by
   rcases Nat.lt_or_ge g w.heap.size with h4|h4
   ·exact h4
   ·rw [Array.getElem?_eq_none h4] at h3;cases h3
  have ec:∀k,k<xs.length→w.cell? (g k)=xs[k]?:=fun k hk=>by
   rw [cell_of_row w g k cur e (0,0) h3,←h7];rw [List.getElem?_take,if_pos b10];simp
  have hf:∀k,w.frozen? (g k)=false:=fun k=>by simp [World.frozen?,h3]
  refine ⟨⟨fun j v hv=>?_,fun j hj=>⟨?_,hf _⟩,hlt⟩,h2⟩
  ·rw [Nat.zero_add,ec j (List.getElem?_eq_some_iff.1 hv).1];exact hv
  ·rw [Nat.zero_add,ec j hj,List.getElem?_eq_getElem hj];rfl
end
end Go.Proofs.YtimhaidiclbnhaaGreat.Ver
