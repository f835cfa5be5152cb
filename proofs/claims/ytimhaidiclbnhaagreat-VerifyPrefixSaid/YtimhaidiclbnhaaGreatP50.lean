import Derived.Test.YtimhaidiclbnhaaGreatP40
set_option linter.unusedSimpArgs false
set_option linter.unusedVariables false
set_option maxRecDepth 100000
open Go.ChangeShapes Go.WideShapes Go.ChangeAt Go.RowKit
namespace Go.Proofs.YtimhaidiclbnhaaGreat.Ver
open Des (Dv De Dn DIn DBlk DAns Vi At RowOf ints DSz)
open Con (StrRow)
def awO:Opr:=⟨1,0,0,3,0,0,0,⟨#[]⟩,false⟩
def wrO (d:ByteArray):Opr:=⟨4,0,0,0,0,0,0,d,false⟩
def syO:Opr:=⟨8,0,0,0,0,0,0,⟨#[]⟩,false⟩
def awScr:List (List Opr):=[[awO,wrO ⟨#[97,98]⟩,syO]]
def awE:List Ev:=[⟨0,0,0,0,0,0,0,0,⟨#[]⟩⟩,⟨0,0,1,0,0,1,0,2,⟨#[]⟩⟩,⟨0,0,2,0,0,2,0,0,⟨#[]⟩⟩]
def awB:List Ev:=[⟨0,0,0,0,0,0,0,1,⟨#[]⟩⟩]
theorem aw1:(runS (begS awScr 1 []) awE 3).2=[]:=by decide
theorem aw2:((runS (begS awScr 1 []) awE 3).1.h.map fun p=>(p.1.length,p.2))=[(2,1)]:=by decide
theorem aw3:(runS (begS awScr 1 []) awB 1).2=[(0,2)]:=by decide
theorem aw4:crF (runS (begS awScr 1 []) awE 3).1.h [] 1=[(-1,5)]:=by decide
theorem aw5:crF (runS (begS awScr 1 []) awE 3).1.h [⟨#[97,98]⟩] 1=[]:=by decide
theorem awK:(∀x,x∈awE→knB (begS awScr 1 []) x=true)∧(∀x,x∈awB→knB (begS awScr 1 []) x=true):=by decide
theorem load_atg {P:Program} {ops:Array Oper} {rest:List Oper} {op:Oper} {a:Act} {w:World} {Q:Exit→Act→World→Prop} {x:Operand} {b:Nat} (o:Nat) {cs:List Value} {ty:TypeId} {d:TypeDesc}
 (h:w.rangeAt b o cs) (hu:P.underlying ty=some d) (hd:d.isRow=true) (hi:(P.info? ty).map (·.size)=some cs.length)
 (hx:a.eval x=.pointer (some (b o))) (hg:Region.wanted op (yielded ops a.tmps)=true) (ho:op.op=.load ty x)
 (hn:wpList P ops Q rest (a.put op.dst (.agg cs.toArray)) w):Hid (wpList P ops Q (op::rest) a w):=
 wpList_step fun K hK=>by
  rw [if_pos hg];exact wp_load_mid ty x ho b o hx _ d h hu hd hi (hK _ _ hn)
theorem sc_one {W:World} {g1 g2:Nat} (L:List Opr) (n:Nat) (hn:L.length=n) (h1:W.cell? (g2 0)=some (.slice (some (g1 0)) n n)) (h2:g1<W.heap.size) (h3:g2<W.heap.size) (hm:n≤maxLen)
 (hc:∀j u,(L.flatMap Opr.cells)[j]? =some u→W.cell? (g1 j)=some u):ScIn W.heap.size W (.slice (some (g2 0)) 1 1) [L]:=by
 refine ⟨g2,0,1,rfl,h3,by simp,by unfold maxLen;omega,fun i hi=>?_⟩;obtain rfl:i=0:=by simp at hi;exact hi
 refine ⟨_,h1,g1,0,n,by simp [hn],h2,by simp [hn],hm,fun i hi=>⟨fun j u hu=>?_⟩⟩;rw [Nat.zero_add];refine hc (i*9+j) u ?_;have hi:i<L.length:=hi;have hj:j<9:=by have:=(List.getElem?_eq_some_iff.1 hu).1;exact this
 have key:∀(L:List Opr) (i:Nat),i<L.length→(L.flatMap Opr.cells)[i*9+j]? =(L.getD i Opr.zero).cells[j]?:=by
  exact cl49
 rw [key L i hi];exact hu
theorem ev_one {W:World} {g:Nat} (L:List Ev) (n:Nat) (hn:L.length=n) (h2:g<W.heap.size) (hm:n≤maxLen) (hc:∀j u,(L.flatMap Ev.cells)[j]? =some u→W.cell? (g j)=some u):EvRow W (.slice (some (g 0)) n n) L:=by
 refine Or.inr ⟨g,0,n,by rw [hn],h2,by omega,hm,fun i hi j u hu=>?_⟩;rw [Nat.zero_add];refine hc (i*9+j) u ?_;have hj:j<9:=by have:=(List.getElem?_eq_some_iff.1 hu).1;exact this
 have key:∀(L:List Ev) (i:Nat),i<L.length→(L.flatMap Ev.cells)[i*9+j]? =(L.getD i Ev.zero).cells[j]?:=by
  exact cl49
 rw [key L i hi];exact hu
theorem own_one {B:Nat} {W:World} {ov a b:Value} (h:W.ownsRow B 70 2 ov 1 [a,b]):∃g cap,ov=.slice (some ⟨g,0,none⟩) 1 cap∧1≤cap∧g<W.heap.size∧W.cell? ⟨g,0,none⟩=some a∧W.cell? ⟨g,1,none⟩=some b:=by
 rcases h.2 with ⟨_,h0⟩|⟨g,cap,cur,hv,hb,hg,hc,_,_,ht⟩
 ·omega
 ·have hlt:g<W.heap.size:=by
   rcases Nat.lt_or_ge g W.heap.size with h1|h1
   ·exact h1
   ·rw [Array.getElem?_eq_none h1] at hg;cases hg
  have e:∀k v,([a,b]:List Value)[k]? =some v→W.cell? ⟨g,k,none⟩=some v:=fun k v hk=>by
   rw [cell_of_row W g k cur 70 (0,0) hg];rw [←ht,List.getElem?_take] at hk;split at hk
   ·simpa using hk
   ·cases hk
  exact ⟨g,cap,hv,hc,hlt,e 0 a rfl,e 1 b rfl⟩
theorem own_none {B:Nat} {W:World} {ov:Value} {xs:List Value} (h:W.ownsRow B 70 2 ov 0 xs):∃oa oc,ov=.slice oa 0 oc:=by
 rcases h.2 with ⟨h1,_⟩|⟨g,cap,cur,h1,_⟩
 ·exact ⟨_,_,h1⟩
 ·exact ⟨_,_,h1⟩
theorem ops_one (L:List Opr) (h:∀o,o∈L→1≤o.kd∧o.kd≤14∧o.off≤1000000∧o.dat.size≤1000):OpsOK [L]:=by
 intro p i hp hi;obtain rfl:p=0:=by simp at hp;exact hp
 have hi:i<L.length:=hi;have e:([L]:List (List Opr)).getD 0 []=L:=rfl;rw [e,show L.getD i Opr.zero=L[i] from by simp [List.getD,hi]];exact h _ (List.getElem_mem hi)
set_option maxHeartbeats 40000000 in
theorem awake_any (W:World):Calls Tryz.prog 14 #[] W (RetW (.bool true) W):=by
 go_enter Tryz.func14,Tryz.ntmps14;go_upto_region 1 with (fail)
 go_cut [1] (fun s1 wx=>∃K pa sa,s1=.pointer (some ⟨K,0,none⟩)∧Hid (At wx K (cfgC (.slice pa 1 1) (.slice sa 1 1)))∧Hid (ScIn wx.heap.size wx (.slice sa 1 1) awScr)∧Hid (Below W W wx))
 case first=>
  rename_i K0 h0 J0 K1 h1 h2;clear h0 K0;go_wp2_with (with_reducible refine Des.hold_store 44 rfl ?_)
  generalize hA:World.alloc W (Obj.cells #[I,I] 27)=wA at *;have hsA:wA.heap.size=W.heap.size+1:=by rw [←hA];exact Des.alloc_size _ _
  generalize hB:World.alloc wA (Obj.cells #[(1:Int),I,I,(3:Int),I,I,I,J,.bool false,(4:Int),I,I,I,I,I,I,.string ⟨#[97,98]⟩,.bool false,(8:Int),I,I,I,I,I,I,J,.bool false] 66)=wB at *;have hsB:wB.heap.size=W.heap.size+2:=by rw [←hB,Des.alloc_size,hsA]
  generalize hC:World.alloc wB (Obj.cells #[.slice (some (W 1 0)) 3 3] 67)=wC at *;have hsC:wC.heap.size=W.heap.size+3:=by rw [←hC,Des.alloc_size,hsB]
  generalize hD:World.alloc wC (Obj.cells #[σ,σ,I,I,I,I,I,I,I,I,σ,σ,I,I,σ,σ,σ,I,I,σ,σ] 44)=wD at *;have HAt:At wD (W.heap.size+3) [σ,σ,I,I,I,I,I,I,I,I,σ,σ,I,I,σ,σ,σ,I,I,σ,σ]:=by rw [←hD,←hsC];exact At.new wC _ 44
  have hbA:Below W W wA:=by rw [←hA];exact Br.alloc Nr _
  have hbC:Below wB wB wD:=by rw [←hD,←hC];exact (Br.alloc Nr _).alloc b37 _
  have hbB:Below wA wA wB:=by rw [←hB];exact Br.alloc Nr _
  have hat1:At wB (W.heap.size+1) [(1:Int),I,I,(3:Int),I,I,I,J,.bool false,(4:Int),I,I,I,I,I,I,.string ⟨#[97,98]⟩,.bool false,(8:Int),I,I,I,I,I,I,J,.bool false]:=by rw [←hB,←hsA];exact At.new wA _ 66
  have hat2:At wC (W.heap.size+2) [.slice (some (W 1 0)) 3 3]:=by rw [←hC,←hsB];exact At.new wB _ 67
  have hbD:Below wC wC wD:=by rw [←hD];exact Br.alloc Nr _
  have hsD:wD.heap.size=W.heap.size+4:=by rw [←hD,Des.alloc_size,hsC]
  clear hA hB hC hD;refine Des.store_ato 0 (cfgC (.slice (some (W 0 0)) 1 1) (.slice (some (W 2 0)) 1 1)) HAt.t rfl size44 (by simp [cfgC,Value.oneCell']) rfl rfl rfl rfl ?_;intro wE hwE;go_wp2_with fail;go_meet;have hbE:Below (W.heap.size+3) wD wE:=by rw [hwE];exact Des.below_cells Nr _ _ Br
  have hE1:At wE (W.heap.size+3) (cfgC (.slice (some (W 0 0)) 1 1) (.slice (some (W 2 0)) 1 1)):=by rw [hwE];exact HAt.store _ rfl
  have hE2:At wE (W.heap.size+1) [(1:Int),I,I,(3:Int),I,I,I,J,.bool false,(4:Int),I,I,I,I,I,I,.string ⟨#[97,98]⟩,.bool false,(8:Int),I,I,I,I,I,I,J,.bool false]:=(hat1.below hbC b10).below hbE b10;have hE3:At wE (W.heap.size+2) [.slice (some (W 1 0)) 3 3]:=(hat2.below hbD b10).below hbE b10;have hsE:wE.heap.size=W.heap.size+4:=by rw [hwE,Des.size_cells];exact hsD
  refine ⟨W.heap.size+3,some ⟨W.heap.size,0,none⟩,some ⟨W.heap.size+2,0,none⟩,rfl,hE1,?_,?_⟩
  ·exact sc_one _ 3 rfl (hE3.cell 0 _ rfl) b10 b10 b17 (fun j u hu=>by have:=hE2.r j u hu;rwa [Nat.zero_add] at this)
  ·exact ((hbA.trans (hbB.mono b10)).trans (hbC.mono b10)).trans (hbE.mono b10)
 case rest=>
  obtain ⟨K,pa,sa,rfl,HC,HS,HB⟩:=hcut;rename_i K0 h0;refine h0 _ _ ?_;clear h0 K0;obtain ⟨w1,hw1⟩:∃w1,w1=wc:=⟨_,rfl⟩
  subst hw1;go_upto_region 3 with (fail)
  have hsA := Des.alloc_size w1 (Obj.cells #[I, .int .i64 0, .int .i64 0, .int .i64 0, .int .i64 0, .int .i64 0, .int .i64 0, .int .i64 0, .string ⟨#[]⟩, .int .i64 0, .int .i64 0, .int .i64 1, .int .i64 0, .int .i64 0, .int .i64 1, .int .i64 0, .int .i64 2, .string ⟨#[]⟩, .int .i64 0, .int .i64 0, .int .i64 2, .int .i64 0, .int .i64 0, .int .i64 2, .int .i64 0, .int .i64 0, .string ⟨#[]⟩] 64); have HB2 : Hid (Below W W (World.alloc w1 (Obj.cells #[I, .int .i64 0, .int .i64 0, .int .i64 0, .int .i64 0, .int .i64 0, .int .i64 0, .int .i64 0, .string ⟨#[]⟩, .int .i64 0, .int .i64 0, .int .i64 1, .int .i64 0, .int .i64 0, .int .i64 1, .int .i64 0, .int .i64 2, .string ⟨#[]⟩, .int .i64 0, .int .i64 0, .int .i64 2, .int .i64 0, .int .i64 0, .int .i64 2, .int .i64 0, .int .i64 0, .string ⟨#[]⟩] 64))) := Hd (HB.out.alloc HB.out.size _); have HC2 := Hd (HC.out.alloc (Obj.cells #[I, .int .i64 0, .int .i64 0, .int .i64 0, .int .i64 0, .int .i64 0, .int .i64 0, .int .i64 0, .string ⟨#[]⟩, .int .i64 0, .int .i64 0, .int .i64 1, .int .i64 0, .int .i64 0, .int .i64 1, .int .i64 0, .int .i64 2, .string ⟨#[]⟩, .int .i64 0, .int .i64 0, .int .i64 2, .int .i64 0, .int .i64 0, .int .i64 2, .int .i64 0, .int .i64 0, .string ⟨#[]⟩] 64)); have HEV : Hid (At (World.alloc w1 (Obj.cells #[I, .int .i64 0, .int .i64 0, .int .i64 0, .int .i64 0, .int .i64 0, .int .i64 0, .int .i64 0, .string ⟨#[]⟩, .int .i64 0, .int .i64 0, .int .i64 1, .int .i64 0, .int .i64 0, .int .i64 1, .int .i64 0, .int .i64 2, .string ⟨#[]⟩, .int .i64 0, .int .i64 0, .int .i64 2, .int .i64 0, .int .i64 0, .int .i64 2, .int .i64 0, .int .i64 0, .string ⟨#[]⟩] 64)) w1.heap.size [I, .int .i64 0, .int .i64 0, .int .i64 0, .int .i64 0, .int .i64 0, .int .i64 0, .int .i64 0, .string ⟨#[]⟩, .int .i64 0, .int .i64 0, .int .i64 1, .int .i64 0, .int .i64 0, .int .i64 1, .int .i64 0, .int .i64 2, .string ⟨#[]⟩, .int .i64 0, .int .i64 0, .int .i64 2, .int .i64 0, .int .i64 0, .int .i64 2, .int .i64 0, .int .i64 0, .string ⟨#[]⟩]) := Hd (At.new w1 _ 64); have HIN : Hid (CIn (World.alloc w1 (Obj.cells #[I, .int .i64 0, .int .i64 0, .int .i64 0, .int .i64 0, .int .i64 0, .int .i64 0, .int .i64 0, .string ⟨#[]⟩, .int .i64 0, .int .i64 0, .int .i64 1, .int .i64 0, .int .i64 0, .int .i64 1, .int .i64 0, .int .i64 2, .string ⟨#[]⟩, .int .i64 0, .int .i64 0, .int .i64 2, .int .i64 0, .int .i64 0, .int .i64 2, .int .i64 0, .int .i64 0, .string ⟨#[]⟩] 64)) 1 awScr sa 1 none 0 [] (.slice (some ⟨w1.heap.size, 0, none⟩) 3 3) awE) := Hd (by
   have hb1:Below w1 w1 (World.alloc w1 (Obj.cells #[I,I,I,I,I,I,I,I,J,I,I,(1:Int),I,I,(1:Int),I,(2:Int),J,I,I,(2:Int),I,I,(2:Int),I,I,J] 64)):=Br.alloc Nr _;refine ⟨?_,by omega,by decide,Or.inl ⟨rfl,rfl,rfl⟩,by simp,fun s h=>(by cases h),?_,?_,by decide,awK.1⟩
   ·obtain ⟨g,o,c2,h1,h2,h3,h4,h5⟩:=HS.out.below hb1;exact ⟨g,o,c2,h1,Nat.lt_of_lt_of_le h2 hb1.size,h3,h4,fun i hi=>by
     obtain ⟨u,h6,g2,o3,c3,h7,h8,h9⟩:=h5 i hi;exact ⟨u,h6,g2,o3,c3,h7,Nat.lt_of_lt_of_le h8 hb1.size,h9⟩⟩
   ·refine ops_one _ fun o ho=>?_
    simp only [List.mem_cons,List.not_mem_nil,or_false] at ho;rcases ho with rfl|rfl|rfl<;>decide
   ·exact ev_one _ 3 rfl (by rw [hsA];omega) b17 (fun j u hu=>by have:=HEV.out.r j u hu;rwa [Nat.zero_add] at this))
  generalize World.alloc w1 (Obj.cells #[I,I,I,I,I,I,I,I,J,I,I,(1:Int),I,I,(1:Int),I,(2:Int),J,I,I,(2:Int),I,I,(2:Int),I,I,J] 64)=w2 at *;generalize w1.heap.size=gE at *;clear HC HS HB HEV hsA;have HHI:Hid (∀W',Below w2 w2 W'→Calls Tryz.prog 11 #[.agg (cfgC (.slice pa 1 1) (.slice sa 1 1)).toArray,σ,.slice (some (gE 0)) 3 3] W' (HisP W' 1 (begS awScr 1 []) awE)):=Hd fun W' hb=>histories_any 1 pa 1 awScr sa 1 none 0 [] _ awE W' (HIN.out.below hb);have HCK:Hid (∀W',Below w2 w2 W'→Calls Tryz.prog 12 #[.agg (cfgC (.slice pa 1 1) (.slice sa 1 1)).toArray,σ,.slice (some (gE 0)) 3 3] W' (ChkP W' (begS awScr 1 []) awE)):=Hd fun W' hb=>check_any 1 pa 1 awScr sa 1 none 0 [] _ awE W' (HIN.out.below hb);have HCR0:Hid (∀W',Below w2 w2 W'→Calls Tryz.prog 13 #[.agg (cfgC (.slice pa 1 1) (.slice sa 1 1)).toArray,σ,σ,.slice (some (gE 0)) 3 3] W' (CraP W' [(-1,5)])):=Hd fun W' hb=>by
   have h1:=crash_any 1 pa 1 awScr sa 1 none 0 [] none 0 [] _ awE W' (HIN.out.below hb) (Or.inl ⟨rfl,rfl,rfl⟩) b11 (fun s h=>by cases h);rw [show crashF 1 (begS awScr 1 []) awE []=[(-1,5)] from by unfold crashF;rw [show awE.length=3 from rfl,aw1,aw4];rfl] at h1;exact h1
  have HCR1:Hid (∀W' g,Below w2 w2 W'→g<W'.heap.size→W'.cell? ⟨g,0,none⟩=some (.string ⟨#[97,98]⟩)→Calls Tryz.prog 13 #[.agg (cfgC (.slice pa 1 1) (.slice sa 1 1)).toArray,σ,.slice (some ⟨g,0,none⟩) 1 1,.slice (some (gE 0)) 3 3] W' (CraP W' [])):=Hd fun W' g hb hg hc=>by
   have h1 := crash_any 1 pa 1 awScr sa 1 none 0 [] (some ⟨g, 0, none⟩) 1 [⟨#[97, 98]⟩] _ awE W' (HIN.out.below hb) (Or.inr ⟨g,rfl,Nat.zero_le _,hg,by simp,by unfold maxLen;omega,fun j hj=>by
    obtain rfl:j=0:=by simp at hj;exact hj
    exact hc⟩) b11 (fun s h=>by simp at h;subst h;decide)
   rw [show crashF 1 (begS awScr 1 []) awE [⟨#[97,98]⟩]=[] from by unfold crashF;rw [show awE.length=3 from rfl,aw1,aw5];rfl] at h1;exact h1
  have HCKB:Hid (∀W' g,Below w2 w2 W'→g<W'.heap.size→(∀j u,(awB.flatMap Ev.cells)[j]? =some u→W'.cell? ⟨g,j,none⟩=some u)→Calls Tryz.prog 12 #[.agg (cfgC (.slice pa 1 1) (.slice sa 1 1)).toArray,σ,.slice (some ⟨g,0,none⟩) 1 1] W' (ChkP W' (begS awScr 1 []) awB)):=Hd fun W' g hb hg hc=>by
   have h0:=HIN.out.below hb;exact check_any 1 pa 1 awScr sa 1 none 0 [] _ awB W' {h0 with ev:=ev_one _ 1 rfl hg b17 hc,xl:=by decide,kn:=awK.2}
  have hsz44:(Tryz.prog.info? 44).map (·.size)=some (cfgC (.slice pa 1 1) (.slice sa 1 1)).length:=size44;clear HIN;generalize cfgC (.slice pa 1 1) (.slice sa 1 1)=cf at *;go_wp2_with (with_reducible refine Des.hold_load 44 rfl ?_)
  refine Des.load_ato 0 HC2.out.r Tryz.underlying44 rfl hsz44 rfl rfl rfl ?_; go_wp2_with fail; refine (HHI.out _ Br).mono ?_; rintro e w3 hh; obtain ⟨B3, l3, rfl, hm3, hb3⟩ := hh; have HH : Hid (∃ ha hc, w3.cell? ⟨l3.H, 0, none⟩ = some (.slice ha 2 hc) ∧ w3.cell? ⟨l3.H, 1, none⟩ = some (.int .i64 1)) := Hd (by
   have h2:=aw2;rw [show (3:Nat)=awE.length from rfl] at h2;generalize (runS (begS awScr 1 []) awE awE.length).1=R at *;have hl:R.h.length=1:=by have:=congrArg List.length h2;simpa using this
   obtain ⟨p,hp⟩:∃p,R.h=[p]:=by
    cases hR:R.h with
    |nil=>rw [hR] at hl;cases hl
    |cons p q=>cases q with
     |nil=>exact ⟨p,rfl⟩
     |cons _ _=>rw [hR] at hl;simp at hl
   rw [hp] at h2;simp only [List.map_cons,List.map_nil,List.cons.injEq,Prod.mk.injEq,and_true] at h2;obtain ⟨hc1,hc2⟩:=hC_at l3.hs R.h 0 b10;have g0:=hm3.h.cell 0 _ hc1;have g1:=hm3.h.cell 1 _ hc2;rw [hp] at g0 g1;have e:([p]:List (List ByteArray×Int)).getD 0 ([],0)=p:=rfl;rw [e,h2.1] at g0;rw [e,h2.2] at g1;exact ⟨(l3.hs.getD 0 Sl.nil).a,(l3.hs.getD 0 Sl.nil).c,g0,g1⟩)
  have HB3:=Hd hb3;have HHl:Hid (l3.H<w3.heap.size):=Hd hm3.h.hi;generalize l3.H=gH at *;clear hm3 hb3;unfold fx;have HC3:=Hd (HC2.out.below HB3.out HC2.out.hi);go_upto_region 5 with (fail)
  have HBB:=Hd ((Below.refl w3 w3).alloc Nr (Obj.cells #[I,I,I,I,I,I,I,(1:Int),J] 64));have HEV:Hid (At (World.alloc w3 (Obj.cells #[I,I,I,I,I,I,I,(1:Int),J] 64)) w3.heap.size [I,I,I,I,I,I,I,(1:Int),J]):=Hd (At.new w3 _ 64);have HC4:=Hd (HC3.out.alloc (Obj.cells #[I,I,I,I,I,I,I,(1:Int),J] 64));have HB4:Hid (Below w2 w2 (World.alloc w3 (Obj.cells #[I,I,I,I,I,I,I,(1:Int),J] 64))):=Hd (HB3.out.trans (HBB.out.mono HB3.out.size));have hg4:=HEV.out.hi;generalize World.alloc w3 (Obj.cells #[I,I,I,I,I,I,I,(1:Int),J] 64)=w4 at *;go_wp2_with (with_reducible refine Des.hold_load 44 rfl ?_)
  refine Des.load_ato 0 HC4.out.r Tryz.underlying44 rfl hsz44 rfl rfl rfl ?_;go_wp2_with fail;refine (HCKB.out _ _ HB4.out hg4 (fun j u hu=>by have:=HEV.out.r j u hu;rwa [Nat.zero_add] at this)).mono ?_;rintro e w5 hh;obtain ⟨B5,ov5,rfl,_,hown5,hb5⟩:=hh;rw [show awB.length=1 from rfl,aw3] at hown5;obtain ⟨g5,cap5,rfl,hcap5,hg5,k50,k51⟩:=own_one hown5;have HB5:=Hd (HB4.out.trans (hb5.mono HB4.out.size));have HBB5:=Hd (HBB.out.trans (hb5.mono HBB.out.size));have HC5:=Hd (HC4.out.below hb5 HC4.out.hi);have HK5:Hid (w5.cell? (g5 1)=some (.int .i64 2)):=Hd k51;clear hown5 hb5 hg4 HEV HCKB k50 k51 HBB HB4 HC4;go_upto_region 6 with (fail)
  go_wp2_with (with_reducible refine Des.hold_load 44 rfl ?_)
  refine Des.load_ato 0 HC5.out.r Tryz.underlying44 rfl hsz44 rfl rfl rfl ?_; go_wp2_with fail; refine (HCR0.out _ HB5.out).mono ?_; rintro e w6 hh; obtain ⟨B6, ov6, rfl, _, hown6, hb6⟩ := hh; obtain ⟨g6, cap6, rfl, hcap6, hg6, k60, k61⟩ := own_one hown6; have HB6 := Hd (HB5.out.trans (hb6.mono HB5.out.size)); have HC6 := Hd (HC5.out.below hb6 HC5.out.hi); have HK6 : Hid (w6.cell? ⟨g5, 1, none⟩ = some (.int .i64 2)) := Hd ((hb6.cell (p := ⟨g5, 1, none⟩) hg5).trans HK5.out); have HH6 : Hid (∃ ha hc, w6.cell? ⟨gH, 0, none⟩ = some (.slice ha 2 hc) ∧ w6.cell? ⟨gH, 1, none⟩ = some (.int .i64 1)) := Hd (by
   obtain ⟨ha,hc,q0,q1⟩:=HH.out;have hlt:gH<w5.heap.size:=Nat.lt_of_lt_of_le HHl.out HBB5.out.size;exact ⟨ha,hc,(hb6.cell (p:=(gH 0)) hlt).trans ((HBB5.out.cell (p:=(gH 0)) HHl.out).trans q0),(hb6.cell (p:=(gH 1)) hlt).trans ((HBB5.out.cell (p:=(gH 1)) HHl.out).trans q1)⟩)
  have HK66:Hid (w6.cell? (g6 1)=some (.int .i64 5)):=Hd k61;have HG5:Hid (g5<w6.heap.size):=Hd (Nat.lt_of_lt_of_le hg5 hb6.size);have HG6:=Hd hg6;clear hown6 hb6 k60 k61 HBB5 HB5 HC5 HK5 HCR0 HH HHl hg5 hg6 HHI;obtain ⟨ha,hc,q0,q1⟩:=HH6.out;have hcap5I:(1:Int)≤(cap5:Int):=b10;have hcap6I:(1:Int)≤(cap6:Int):=b10;go_wp2_with (with_reducible refine Des.hold_load 44 rfl ?_)
  refine load_atg 0 HC6.out.r Tryz.underlying44 rfl hsz44 rfl (by rfl) rfl ?_;clear q0 q1;go_wp2_with fail;refine (HCK.out _ HB6.out).mono ?_;rintro e w7 hh;obtain ⟨B7,ov7,rfl,_,hown7,hb7⟩:=hh;rw [show awE.length=3 from rfl,aw1] at hown7;obtain ⟨oa7,oc7,rfl⟩:=own_none hown7;have k71:w7.cell? (g5 1)=some (.int .i64 2):=(hb7.cell (p:=(g5 1)) HG5.out).trans HK6.out;have k72:w7.cell? (g6 1)=some (.int .i64 5):=(hb7.cell (p:=(g6 1)) HG6.out).trans HK66.out;have HB7:=Hd (HB6.out.trans (hb7.mono HB6.out.size));have HC7:=Hd (HC6.out.below hb7 HC6.out.hi);clear hown7 hb7 HB6 HC6 HH6 HK6 HK66 HG5 HG6 HCK;go_wp2_with (with_reducible refine Des.hold_load 44 rfl ?_)
  refine load_atg 0 HC7.out.r Tryz.underlying44 rfl hsz44 rfl (by rfl) rfl ?_;clear k71 k72;go_wp2_with fail;refine (HCR1.out _ w7.heap.size (HB7.out.alloc HB7.out.size _) b37 (World.cell?_alloc_new _ _ _ _)).mono ?_;rintro e w8 hh;obtain ⟨B8,ov8,rfl,_,hown8,hb8⟩:=hh;obtain ⟨oa8,oc8,rfl⟩:=own_none hown8;have HB8:Hid (Below W W w8):=Hd (HB2.out.trans ((HB7.out.trans (((Below.refl w7 w7).alloc Nr _).mono HB7.out.size |>.trans (hb8.mono (by rw [Des.alloc_size];have:=HB7.out.size;omega)))).mono HB2.out.size));clear hown8 hb8;go_wp2_with fail;go_ret;exact RetW.mk rfl HB8.out
end Go.Proofs.YtimhaidiclbnhaaGreat.Ver
