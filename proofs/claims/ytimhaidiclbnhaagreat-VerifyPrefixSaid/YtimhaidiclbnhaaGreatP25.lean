import Derived.Test.YtimhaidiclbnhaaGreatP23
set_option linter.unusedSimpArgs false
set_option linter.unusedVariables false
set_option maxRecDepth 100000
open Go.ChangeShapes Go.WideShapes Go.ChangeAt Go.RowKit
namespace Go.Proofs.YtimhaidiclbnhaaGreat.Ver
open Go.ChangeMaps (setBlock heap_setBlock_same heap_setBlock_other)
theorem keyed3:Go.Maps.Keyed Tryz.prog 3:=Go.Maps.int_keyed Tryz.underlying3
theorem key3 {k:Int} (h1:-9223372036854775808≤k) (h2:k≤9223372036854775807):keyOf Tryz.prog 3 (.int .i64 k)=some (.int .i64 k):=by
 have m1:IntKind.i64.min=-9223372036854775808:=rfl;have m2:IntKind.i64.max=9223372036854775807:=rfl;have hw1:(Lit.int .i64 k).wf=true:=by simp [Lit.wf,m1,m2];omega
 simp [keyOf,mapKey,Tryz.underlying3,hw1]
def hV (n:Nat):Value:=.agg #[.func (.func (65+n)) #[] #[]]
def hEnt (n:Nat):MapEntry:={key:=.int .i64 ((n:Int)+1),val:=hV n,born:=n}
def hEs (n:Nat):Array MapEntry:=((List.range n).map hEnt).toArray
def HMap (W:World) (b n:Nat):Prop:=W.heap[b]? =some (.map (hEs n) n)
def hW (W:World) (n:Nat):World:=W.alloc (.map (hEs n) n)
theorem hmap_new (W:World) (n:Nat):HMap (hW W n) W.heap.size n:=Go.heap_alloc_new W _
theorem hEs_keys (n:Nat) (hn:n≤14):∀x∈(hEs n).toList,∃l,keyOf Tryz.prog 3 x.key=some l:=by
 intro x hx;simp only [hEs,List.mem_map,List.mem_range] at hx;obtain ⟨i,hi,rfl⟩:=hx;exact ⟨_,key3 (k:=(i:Int)+1) b10 b10⟩
theorem hfind (W:World) (n:Nat) (hn:n≤14) (k:Int) (h1:-9223372036854775808≤k) (h2:k≤9223372036854775807):
 ((Instr.findKey 3 (.int .i64 k) (hEs n).toList).run Tryz.prog W=.ok none W∧¬(1≤k∧k≤n))∨
 ∃j:Nat,(Instr.findKey 3 (.int .i64 k) (hEs n).toList).run Tryz.prog W=.ok (some (j,hV j)) W∧j<n∧k=(j:Int)+1:=by
 rcases keyed3.find W (key3 h1 h2) (hEs n).toList (hEs_keys n hn) with ⟨a,b⟩|⟨j,e,a,b,c⟩
 ·refine Or.inl ⟨a,fun hh=>?_⟩;refine b (hEnt (k-1).toNat) (by simp only [hEs,List.mem_map,List.mem_range];exact ⟨(k-1).toNat,by omega,rfl⟩) ?_;simp only [hEnt];congr 1
  omega
 ·simp only [hEs,List.getElem?_map,Option.map_eq_some_iff] at b;obtain ⟨i,hi,rfl⟩:=b;obtain ⟨hi1,hi2⟩:=List.getElem?_eq_some_iff.1 hi;simp only [List.length_range] at hi1;simp only [List.getElem_range] at hi2;subst hi2;refine Or.inr ⟨j,a,hi1,?_⟩;simp only [hEnt,Value.int.injEq,true_and] at c;exact c.symm
theorem set_alloc (W:World) (o o':Obj):setBlock (W.alloc o) W.heap.size o'=W.alloc o':=by
 have h:(W.heap.push o).setIfInBounds W.heap.size o'=W.heap.push o':=by
  apply Array.ext
  ·simp
  ·intro i h1 h2;simp only [Array.size_push] at h2;rcases Nat.lt_or_ge i W.heap.size with h|h
   ·rw [Array.getElem_setIfInBounds_ne b16 b10,Array.getElem_push_lt h,Array.getElem_push_lt h]
   ·obtain rfl:i=W.heap.size:=b10;simp
 show ({W with heap:=(W.heap.push o).setIfInBounds W.heap.size o'}:World)={W with heap:=W.heap.push o'}
 rw [h]
theorem hins (W:World) (n:Nat) (hn:n<14) (k:Int) (f:Nat) (hk:k=(n:Int)+1) (hf:f=65+n):
 (Instr.mapUpdate 119 (.map (some W.heap.size)) (.int .i64 k) (.agg #[.func (.func f) #[] #[]])).run Tryz.prog (hW W n)=.ok () (hW W (n+1)):=by
 have hb:=hmap_new W n;have hlk:=key3 (k:=k) b10 b10;have h1:(Instr.findKey 3 (.int .i64 k) (hEs n).toList).run Tryz.prog (hW W n)=.ok none (hW W n):=by
  rcases hfind (hW W n) n b10 k b10 b10 with ⟨a,_⟩|⟨j,_,h2,h3⟩
  ·exact a
  ·omega
 have e1:setBlock (hW W n) W.heap.size (.map ((hEs n).push {key:=.int .i64 k,val:=.agg #[.func (.func f) #[] #[]],born:=n}) (n+1))=hW W (n+1):=by
  subst hk hf;have e2:(hEs n).push {key:=.int .i64 ((n:Int)+1),val:=.agg #[.func (.func (65+n)) #[] #[]],born:=n}=hEs (n+1):=by
   simp [hEs,List.range_succ,hEnt,hV]
  rw [e2];exact set_alloc W _ _
 rw [←e1];generalize hW W n=w at *;simp [Instr.mapUpdate,run_underlying Tryz.underlying119,MapKept.run_getObj_map hb,keyed3.check w _ hlk,h1,MapKept.run_setObj_map _ hb,Result.andThen,setBlock]
set_option maxHeartbeats 8000000 in
theorem handlers_any (W:World):Calls Tryz.prog 39 #[] W (RetW (.map (some W.heap.size)) (hW W 14)):=by
 have hmm:(Instr.makeMap 119 none).run Tryz.prog W=.ok (.map (some W.heap.size)) (hW W 0):=rfl;have h0:=hins W 0 b14 1 65 rfl rfl;have h1:=hins W 1 b14 2 66 rfl rfl;have h2:=hins W 2 b14 3 67 rfl rfl;have h3:=hins W 3 b14 4 68 rfl rfl;have h4:=hins W 4 b14 5 69 rfl rfl;have h5:=hins W 5 b14 6 70 rfl rfl;have h6:=hins W 6 b14 7 71 rfl rfl;have h7:=hins W 7 b14 8 72 rfl rfl;have h8:=hins W 8 b14 9 73 rfl rfl;have h9:=hins W 9 b14 10 74 rfl rfl;have h10:=hins W 10 b14 11 75 rfl rfl;have h11:=hins W 11 b14 12 76 rfl rfl;have h12:=hins W 12 b14 13 77 rfl rfl;have h13:=hins W 13 b14 14 78 rfl rfl;simp only [Nat.reduceAdd] at h0 h1 h2 h3 h4 h5 h6 h7 h8 h9 h10 h11 h12 h13;go_enter Tryz.func39,Tryz.ntmps39;go_wp2_with fail;exact bodyPost_ret (v:=.map (some W.heap.size)) (by simp [results,Tryz.results39,go_sem]) rfl (RetW.mk rfl Br)
open Des (Dv De Dn DIn DBlk DAns Vi At RowOf ints DSz)
open Ara (Ar ARow)
open Con (StrRow)
set_option maxHeartbeats 4000000 in
theorem wait_any (B:Nat) (l:Ly) (s:St) (p:Int) (o:Opr) (x:Ev) (W:World):
 Calls Tryz.prog 78 #[stepV l.M p o x] W (PlanP B W l s ⟨0,0,⟨#[]⟩⟩ s):=by
 have HX:=Hd (Bx2.start W (stepC l.M p o x) [I,I,J,.nilFunc] 122 114);unfold stepV;obtain ⟨cs,hcs⟩:∃cs,cs=stepC l.M p o x:=⟨_,rfl⟩
 have HCS:=Hd hcs;rw [←hcs] at HX ⊢;clear hcs;go_enter Tryz.func78,Tryz.ntmps78;go_upto_region 1 with (fail)
 generalize World.alloc _ (Obj.cells #[I,I,J,.nilFunc] 114)=wc at *;obtain ⟨_,⟨r0,r1,r2,r3⟩,rh⟩:=At.four HX.out.r;obtain ⟨rc0,rc1,rc2,rc3⟩:=(At.four HX.out.r).1;go_wp2_with fail;change bodyPost _ _ _ _ _ ((((wc.setCell (W 1 0) I).setCell (W 1 1) I).setCell (W 1 2) J).setCell (W 1 3) (.nilFunc));generalize hwB:(((wc.setCell (W 1 0) I).setCell (W 1 1) I).setCell (W 1 2) J).setCell (W 1 3) (.nilFunc)=w9 at *;have HP:Bx2 W w9 W.heap.size (W.heap.size+1) cs [I,I,J,.nilFunc]:=by rw [←hwB];exact HX.out.putR [I,I,J,.nilFunc] rfl
 skip
 clear r0 r1 r2 r3 rc0 rc1 rc2 rc3;obtain ⟨⟨q0,q1,q2,q3⟩,_,_⟩:=At.four HP.r;exact bodyPost_ret (v:=.agg #[I,I,J,.nilFunc]) (by simp [results,Tryz.results78,go_sem,q0,q1,q2,q3]) rfl ⟨_,rfl,HP.bel,Or.inl ⟨rfl,rfl⟩⟩
namespace Adgf
theorem km14 {p : Prop} (h:p:=by
 go_enter Tryz.func108,Tryz.ntmps108;go_wp2_with fail;go_region;go_wp2_with fail;go_end0;exact ⟨l.x,l.ar.set p ⟨a,c⟩,l.hs,rfl,HP.out,HV.out⟩):p:=h
end Adgf
open Adgf in
set_option maxHeartbeats 4000000 in
theorem clo108 (B:Nat) (l:Ly) (s:St) (p:Nat) (o:Opr) (x:Ev) (a:Option Addr) (c:Nat) (L:List Ar) (X T:Nat) (W:World) (h:Mm B W l s) (hp:p<s.ar.length) (hps:p<s.scr.length) (hn:s.scr.length≤1000) (hT:At W T (stepC l.M (p:Int) o x)) (hX:At W X [.slice a L.length c]) (hs:ARow 0 a c L W) (ho:∀q,a=some q→q.block∉vx l):
 Calls Tryz.prog 108 #[.pointer (some (X 0)),.pointer (some (T 0))] W fun e w3=>∃x' ar' hs',e=.returned (.tuple #[])∧Mm B w3 {l with x:=x',ar:=ar',hs:=hs'} {s with ar:=s.ar.set p L}∧Vk (vs l) W w3:=by
 exact cm14
namespace Aqmr
theorem km14 {p : Prop} (h:p:=by
 go_enter Tryz.func110,Tryz.ntmps110;go_wp2_with fail;go_region;go_wp2_with fail;go_end0;exact ⟨l.x,l.ar.set p ⟨a,c⟩,l.hs,rfl,HP.out,HV.out⟩):p:=h
end Aqmr
open Aqmr in
set_option maxHeartbeats 4000000 in
theorem clo110 (B:Nat) (l:Ly) (s:St) (p:Nat) (o:Opr) (x:Ev) (a:Option Addr) (c:Nat) (L:List Ar) (X T:Nat) (W:World) (h:Mm B W l s) (hp:p<s.ar.length) (hps:p<s.scr.length) (hn:s.scr.length≤1000) (hT:At W T (stepC l.M (p:Int) o x)) (hX:At W X [.slice a L.length c]) (hs:ARow 0 a c L W) (ho:∀q,a=some q→q.block∉vx l):
 Calls Tryz.prog 110 #[.pointer (some (X 0)),.pointer (some (T 0))] W fun e w3=>∃x' ar' hs',e=.returned (.tuple #[])∧Mm B w3 {l with x:=x',ar:=ar',hs:=hs'} {s with ar:=s.ar.set p L}∧Vk (vs l) W w3:=by
 exact cm14
theorem heap_sets {b k:Nat} (hk:k≠b):∀(us:List Value) (o:Nat) (w:World),(w.setCells b o us).heap[k]? =w.heap[k]?
 |[],_,_=>rfl
 |u::us,o,w=>(heap_sets hk us (o+1) (w.setCell (b o) u)).trans (Below.heap_setCell w ⟨b,o,none⟩ u k hk)
theorem arow_sets {b:Nat} {B c:Nat} {a:Option Addr} {L:List Ar} {w:World} (h:ARow B a c L w) (us:List Value) (hb:∀q,a=some q→q.block≠b):ARow B a c L (w.setCells b 0 us):=
 arow_keep h (by rw [Des.size_cells];exact Nat.le_refl _) fun q hq=>heap_sets (hb q hq) us 0 w
theorem arow_lo {B c:Nat} {a:Option Addr} {L:List Ar} {w:World} (h:ARow B a c L w):∀q,a=some q→B≤q.block:=fun q hq=>by
 rcases h with ⟨h1,_⟩|⟨g,h1,h2,_⟩
 ·rw [h1] at hq;cases hq
 ·rw [h1] at hq;cases hq;exact h2
theorem ar_after {W1 w2:World} {c:Nat} {a:Option Addr} {L:List Ar} (h:ARow W1.drew.heap.size a c L w2) (o:Obj):ARow W1.heap.size a c L (w2.alloc o):=Ara.ARow.below h (Br.alloc Nr o)
theorem ar_before {W1 w2:World} {zs:List Value} {T:TypeId} {c:Nat} {a:Option Addr} {L:List Ar} (h:ARow (W1.alloc (.cells zs.toArray T)).drew.heap.size a c L w2) (us:List Value):ARow W1.heap.size a c L (w2.setCells W1.heap.size 0 us):=by
 have e:(W1.alloc (.cells zs.toArray T)).drew.heap.size=W1.heap.size+1:=Des.alloc_size _ _;rw [e] at h;exact Ara.ARow.mono (arow_sets h us fun q hq=>by have:=arow_lo h q hq;omega) b10
def unmapR (s:St) (p:Nat) (o:Opr):Res×St:=
 if (Ara.unmapV (s.ar.getD p []) o.pg o.len).2≠0 then (badR (Ara.unmapV (s.ar.getD p []) o.pg o.len).2,s) else (⟨0,0,⟨#[]⟩⟩,{s with ar:=s.ar.set p (Ara.unmapV (s.ar.getD p []) o.pg o.len).1})
namespace Ac6e
theorem km4 {p : Prop} (h:p:=by
 exact cm78):p:=h
theorem km23 {p : Prop} (h:p:=by
 have hm1:l.R<W1.heap.size:=HM1.out.hi _ (by simp [vs]);have f1a:¬W1.heap.size=l.R:=b10;have f1b:¬l.R=W1.heap.size:=b10;have yt0:=HX0.out.t.cell 0 (.pointer (some (l.M 0))) b13;have yt1:=HX0.out.t.cell 1 (.int .i64 (p:Int)) b13;have yt7:=HX0.out.t.cell 7 (.int .i64 o.len) b13;have yt8:=HX0.out.t.cell 8 (.int .i64 o.pg) b13;have ymR:=(HM.out.below HX0.out.bel).cR;have ya:=HR.out _ (HM.out.below HX0.out.bel);have t0:=HX.out.t.cell 0 (.pointer (some (l.M 0))) b13;have t1:=HX.out.t.cell 1 (.int .i64 (p:Int)) b13;have t7:=HX.out.t.cell 7 (.int .i64 o.len) b13;have t8:=HX.out.t.cell 8 (.int .i64 o.pg) b13;have mR:=(HM.out.below HX.out.bel).cR;have a:=HR.out _ (HM.out.below HX.out.bel);go_region_held3 (fun w'=>w'.cell? (W 0 0)=some (.pointer (some (l.M 0)))∧w'.cell? (W 0 1)=some (p:U)∧w'.cell? (W 0 7)=some (o.len:U)∧w'.cell? (W 0 8)=some (o.pg:U)∧w'.cell? (l.M 26)=some (.slice (some (l.R 0)) s.scr.length s.scr.length)∧w'.cell? (l.R p)=some (.slice a0 la c0)) (go_keep) (first|(go_at_call 109;refine (HC.out _ b32).mono ?_;rintro e w2 ⟨b,c,rfl,hrow,hb⟩;have HW:=Hd hrow;clear hrow;(first|(have HA:=Hd hb;replace HX:=Hd (HX.out.below hb))|(have HB:=Hd hb;obtain ⟨_,f0,fh⟩:=At.one (((At.new W1 [σ] 106).drew).below hb b38);replace HX:=Hd ((HX.out.below (Br.alloc Nr _)).below hb)));clear hb t0 t1 t7 t8 mR a;have t0:=HX.out.t.cell 0 (.pointer (some (l.M 0))) b13;have t1:=HX.out.t.cell 1 (.int .i64 (p:Int)) b13;have t7:=HX.out.t.cell 7 (.int .i64 o.len) b13;have t8:=HX.out.t.cell 8 (.int .i64 o.pg) b13;have mR:=(HM.out.below HX.out.bel).cR;have a:=HR.out _ (HM.out.below HX.out.bel)))
 all_goals
  go_wp2_with fail;go_meet;first|exact ⟨_,b,c,rfl,rfl,Hd (Nb.after ((Below.refl W1 W1).drew.trans HA.out) [.slice b TD.length c] 106),Hd (ar_after HW.out _)⟩|exact ⟨_,b,c,rfl,rfl,Hd (Nb.before (T:=106) (zs:=[σ]) ((Below.refl (W1.alloc _).heap.size (W1.alloc _)).drew.trans HB.out) [.slice b TD.length c] rfl),Hd (ar_before HW.out [.slice b TD.length c])⟩):p:=h
theorem km67 {p : Prop} (h:p:=by
 have hmf':=Hd hmf;unfold stepV;obtain ⟨cs,hcs⟩:∃cs,cs=stepC l.M (p:Int) o x:=⟨_,rfl⟩
 have HCS:=Hd hcs;rw [←hcs] at HX ⊢;have hpI:(p:Int)<(s.scr.length:Int):=b10;have hnI:(s.scr.length:Int)≤1000:=b10;clear hcs h hsl hte hmf;generalize (s.ar.getD p []).length=la at *;generalize unmapR s p o=PR at *;go_enter Tryz.func74,Tryz.ntmps74;go_upto_region 1 with (fail)
 generalize World.alloc _ (Obj.cells #[I,I,J,.nilFunc] 114)=W1 at *;have HM1:=Hd (HM.out.below HX.out.bel);have HR1:Hid (W.heap.size+1<W1.heap.size):=Hd HX.out.r.hi;go_cut [3,4] (fun s3 s4 wx=>∃(K:Nat) (b:Option Addr) (c:Nat),s3=.pointer (some (K 0))∧s4=.int .i64 TE∧Hid (Nb W1 wx K [.slice b TD.length c])∧Hid (ARow W1.heap.size b c TD wx))
 case first=>
  exact cm23
 case rest=>
 obtain ⟨K,b,c,rfl,rfl,HN,HW⟩:=hcut;replace HX:=Hd (HX.out.below HN.out.bel);clear HC;by_cases hu:TE=0
 ·subst hu;exact cm137
 ·have hu':(TE==0)=false:=by simpa using hu
  exact cm116):p:=h
theorem km78 {p : Prop} (h:p:=by
 exact bodyPost_ret (v:=.agg #[TE,I,J,.nilFunc]) (by simp [results,Tryz.results74,go_sem,q0,q1,q2,q3]) rfl ⟨_,rfl,HP.bel,Or.inl ⟨rfl,rfl⟩⟩):p:=h
theorem km106 {p : Prop} (h:p:=by
 have HM:=Hd h;have HE:Hid (unmapR s p o=if (Ara.unmapV (s.ar.getD p []) o.pg o.len).2≠0 then (badR (Ara.unmapV (s.ar.getD p []) o.pg o.len).2,s) else (⟨0,0,⟨#[]⟩⟩,{s with ar:=s.ar.set p (Ara.unmapV (s.ar.getD p []) o.pg o.len).1})):=Hd rfl;rw [hte] at HE;simp only at HE;exact cm67):p:=h
theorem km116 {p : Prop} (h:p:=by
 go_wp2_with fail;refine (bad_any TE _).mono ?_;exact cm4):p:=h
theorem km137 {p : Prop} (h:p:=by
 clear HE;replace hmf:=hmf'.out;have HSC:Hid (p<s.ar.length∧p<s.scr.length∧s.scr.length≤1000):=Hd ⟨hp,hps,hn⟩;obtain ⟨_,⟨r0,r1,r2,r3⟩,rh⟩:=At.four HX.out.r;obtain ⟨rc0,rc1,rc2,rc3⟩:=(At.four HX.out.r).1;go_wp2_with fail;generalize hwB:(((wc.setCell (W 1 0) I).setCell (W 1 1) I).setCell (W 1 2) J).setCell (W 1 3) (.func (.func 110) #[] #[.pointer (some (K 0)),.pointer (some (W 0 0))])=w9 at *;have HP:Bx2 W w9 W.heap.size (W.heap.size+1) cs [I,I,J,.func (.func 110) #[] #[.pointer (some (K 0)),.pointer (some (W 0 0))]]:=by rw [←hwB];exact HX.out.putR [I,I,J,.func (.func 110) #[] #[.pointer (some (K 0)),.pointer (some (W 0 0))]] rfl
 skip
 have HAK:Hid (At w9 K [.slice b TD.length c]):=Hd (by rw [←hwB];exact HN.out.at'.apart b98 0 [I,I,J,.func (.func 110) #[] #[.pointer (some (K 0)),.pointer (some (W 0 0))]]);have HAW:Hid (ARow 0 b c TD w9):=Hd (by rw [←hwB];exact arow_sets (Ara.ARow.mono HW.out (Nat.zero_le _)) [I,I,J,.func (.func 110) #[] #[.pointer (some (K 0)),.pointer (some (W 0 0))]] (fun q hq=>by have:=arow_lo HW.out q hq;have:=HR1.out;omega));clear r0 r1 r2 r3 rc0 rc1 rc2 rc3;obtain ⟨⟨q0,q1,q2,q3⟩,_,_⟩:=At.four HP.r;exact bodyPost_ret (v:=.agg #[I,I,J,.func (.func 110) #[] #[.pointer (some (K 0)),.pointer (some (W 0 0))]]) (by simp [results,Tryz.results74,go_sem,q0,q1,q2,q3]) rfl ⟨_,rfl,HP.bel,Or.inr ⟨110,_,rfl,fun _ _=>rfl,fun W2' hf2=>clo110 B l s p o x b c TD K W.heap.size W2' (hf2.mm HP.bel) HSC.out.1 HSC.out.2.1 HSC.out.2.2 b33 (hf2.at HAK.out b23) (hf2.row HAW.out (fun q hq=>by have:=arow_lo HW.out q hq;first|(have:=HR4.out;omega)|(have:=HR1.out;omega))) (fun q hq hm=>by have:=HM.out.hix _ hm;have:=arow_lo HW.out q hq;have:=HR1.out;omega)⟩⟩):p:=h
end Ac6e
open Ac6e in
set_option maxHeartbeats 8000000 in
theorem unmap_any (B:Nat) (l:Ly) (s:St) (p:Nat) (o:Opr) (x:Ev) (W:World) (h:Mm B W l s) (hp:p<s.ar.length) (hps:p<s.scr.length) (hn:s.scr.length≤1000) (hal:(s.ar.getD p []).length≤100):
 Calls Tryz.prog 74 #[stepV l.M (p:Int) o x] W (PlanP B W l s (unmapR s p o).1 (unmapR s p o).2):=by
 obtain ⟨a0,c0,hsl⟩:∃a c,l.ar.getD p Sl.nil=⟨a,c⟩:=⟨_,_,rfl⟩
 obtain ⟨TD,TE,hte⟩:∃TD TE,Ara.unmapV (s.ar.getD p []) o.pg o.len=(TD,TE):=⟨_,_,rfl⟩
 have HC:Hid (∀W',Below W W W'→Calls Tryz.prog 109 #[.slice a0 (s.ar.getD p []).length c0,o.pg,o.len] W' (fun e w'=>∃b c,e=.returned (.tuple #[.slice b TD.length c,.int .i64 TE])∧ARow W'.heap.size b c TD w'∧Below W' W' w')):=Hd fun W' hb=>by
  have h1:=(h.below hb).im.ra p hp;rw [hsl] at h1;have h2:=Ara.unmap_any 0 a0 (s.ar.getD p []) c0 o.pg o.len W' h1.1 hal;rw [hte] at h2;exact h2
 exact cm106
end Go.Proofs.YtimhaidiclbnhaaGreat.Ver
namespace Go.Proofs.YtimhaidiclbnhaaGreat.Ara
namespace Ahoe
theorem km15 {p : Prop} (h:p:=by
 exact cl57):p:=h
theorem km38 {p : Prop} (h:p:=by
 have HC:Hid (∀W,Below w w W→Calls Tryz.prog 51 #[.slice a l.length cap] W (RetW (.bool (checkV l)) W)):=fun W hb=>checkR_any B a l cap W (h.below hb) hl;exact cm61):p:=h
theorem km61 {p : Prop} (h:p:=by
 go_enter Tryz.func53,Tryz.ntmps53;exact cm105):p:=h
theorem km83 {p : Prop} (h:p:=by
 refine bodyPost_ret (v:=.tuple #[.agg #[s,c,f,q,.bool wb],.bool true]) (by simp [results,Tryz.results53,go_sem,d0,d1,d2,d3,d4]) rfl ⟨by rw [HV.out];rfl,HBD⟩):p:=h
theorem km105 {p : Prop} (h:p:=by
 cases hcv:checkV l with
 |false=>
  exact cm15
 |true=>
  have HR2:=Hd (HR.out hcv);have HM2:=Hd (HM.out hcv);have HH2:=Hd (HH.out hcv);clear HR HM HH HN hcv;go_wp2_with fail;go_loopw [6] (fun v6 wr=>∃k:Nat,k≤l.length∧v6=.int .i64 k∧Hid (Below w w wr)∧Hid (Blk wr w.heap.size ⟨0,0,0,0,false⟩)∧Hid (∀j,j<k→inB p (l.getD j Ar.zero)=false)) (fun v6 _=>200-(intOf v6).toNat)
  case atStart=>exact ⟨0,Nat.zero_le _,rfl,HB,HZ,fun j hj=>absurd hj (Nat.not_lt_zero _)⟩
  case round=>
   clear HB HZ;obtain ⟨k,hk,rfl,HB,HZ,HF⟩:=hrel;by_cases hlt:k<l.length
   ·exact cm130
   ·obtain rfl:k=l.length:=b10;have hv:=HM2.out HF.out;have z0:=HZ.out.c0;have z1:=HZ.out.c1;have z2:=HZ.out.c2;have z3:=HZ.out.c3;have z4:=HZ.out.c4;have y0:=HZ.out.f 0 b10;have y1:=HZ.out.f 1 b10;have y2:=HZ.out.f 2 b10;have y3:=HZ.out.f 3 b10;have y4:=HZ.out.f 4 b10;simp only at z0 z1 z2 z3 z4;exact cm117):p:=h
theorem km117 {p : Prop} (h:p:=by
 exact cl57):p:=h
theorem km130 {p : Prop} (h:p:=by
 clear hh hnext HA HR2 HM2 HH2 HF;generalize l.getD k Ar.zero=e at *;obtain ⟨s,c,f,q,wb⟩:=e;simp only at e1 e2 e3;obtain ⟨k0,k1,k2,k3,k4⟩:=hcel;simp only at k0 k1 k2 k3 k4;have hin:inB p ⟨s,c,f,q,wb⟩=decide (s≤p∧p<s+c):=rfl;rw [hin] at HNX HHH;clear hin;have hw1:IntKind.i64.wrap (s+c)=s+c:=IntWalk.i64_in _ b10;have HBd:=Hd HB.out.drew;by_cases hsp:s≤p
 ·by_cases hpe:p<s+c
  ·have hv:=HHH.out (decide_eq_true ⟨hsp,hpe⟩);have HV:=Hd hv;clear hv HNX HHH;go_wp2_with fail;go_quiet (fail);replace HB:=Hd (below_drewN HB.out nq);replace HZ:=Hd (HZ.out.below (below_drewN Br nq));have k0':(wr.drewN nq).cell? (g (k*5))=some (s:U):=k0;have k1':(wr.drewN nq).cell? (g (k*5+1))=some (c:U):=k1;have k2':(wr.drewN nq).cell? (g (k*5+2))=some (f:U):=k2;have k3':(wr.drewN nq).cell? (g (k*5+3))=some (q:U):=k3;have k4':(wr.drewN nq).cell? (g (k*5+4))=some (.bool wb):=k4;clear k0 k1 k2 k3 k4 HBd;generalize wr.drewN nq=w4 at *;have z0:=HZ.out.c0;have z1:=HZ.out.c1;have z2:=HZ.out.c2;have z3:=HZ.out.c3;have z4:=HZ.out.c4;have y0:=HZ.out.f 0 b10;have y1:=HZ.out.f 1 b10;have y2:=HZ.out.f 2 b10;have y3:=HZ.out.f 3 b10;have y4:=HZ.out.f 4 b10;simp only at z0 z1 z2 z3 z4;exact cm83
  ·have HN2:=Hd (HNX.out (decide_eq_false b10));have hpe2:s+c≤p:=b10;exact cl69
 ·have HN2:=Hd (HNX.out (decide_eq_false b10));have hsp2:p<s:=b10;have hsp3:decide (s≤p)=false:=decide_eq_false hsp;exact cl69):p:=h
end Ahoe
open Ahoe in
set_option maxHeartbeats 4000000 in
theorem findR_any (B:Nat) (a:Option Addr) (l:List Ar) (cap:Nat) (p:Int) (w:World) (h:ARow B a cap l w) (hl:l.length≤100):
 Calls Tryz.prog 53 #[.slice a l.length cap,p] w (RetW (.tuple #[arVal (optA (findV l p)),.bool (findV l p).isSome]) w):=by
 exact cm38
end Go.Proofs.YtimhaidiclbnhaaGreat.Ara
